/- Part of the proof that the laws answer true for every input. -/
import Derived.Test.YtiabbjolepnjkaaGreatPDfD04
set_option linter.unusedSimpArgs false
set_option linter.unnecessarySimpa false
set_option linter.unusedVariables false
set_option maxRecDepth 100000
set_option maxHeartbeats 40000000
namespace Go.Proofs.YtiabbjolepnjkaaGreat
open Go.RowKit
attribute [local go_sem ↓] Go.wp_at_zero Go.wp_at_succ
theorem zhN {s:SysF} (hg:GoodS s s.N s.K) (ch:List Int) {u v:Nat} (hu:u<s.tab.length) (hv:v<s.tab.length) (hp:prcT s.tab u=prcT s.tab v) (hr:rndT s.tab u=rndT s.tab v) (h0:0<rndT s.tab u)
  (he:tolL s (quoL s ch) u=tolL s (quoL s ch) v):nth (quoL s ch) u=nth (quoL s ch) v:=zgJ hg hg.nodup ch hu hv hp hr h0 fun k hk=>by
 have h1:=zdA (s:=s) (cl:=quoL s ch) (u:=u) hk;have h2:=zdA (s:=s) (cl:=quoL s ch) (u:=v) hk;rw[←h1,he,h2,hp,hr]
theorem walkMessageDetermines {S S2':Nat→Prop} {w:World} {vc vs vch:Value} {p:ProbD} {ch:List Int} {x0 x1 x2 x3:Nat} (hc:Sl kCase S w vc p.cs) (hs:Sl (kSl (kFlat 8)) S w vs p.st) (h2:Ints S2' w vch ch) (b0:x0<256) (b1:x1<256) (b2:x2<256):
  Calls Tryz.prog 13 #[.agg #[p.n,p.ins,p.outs,vc,p.an,vs,p.rounds],.agg #[vch],.agg #[.int .u8 (x0:Int),.int .u8 (x1:Int),.int .u8 (x2:Int),.int .u8 (x3:Int)]] w (Post w fun _ r=>r=.bool true):=by
 obtain ⟨ca,cc,rfl,_⟩:=hc.form;obtain ⟨sa,sc,rfl,_⟩:=hs.form;obtain ⟨a2,c2,rfl,_⟩:=h2.form;have KS:Hid (∀W,Below w.heap.size w W→Calls Tryz.prog 41 #[.agg #[p.n,p.ins,p.outs,.slice ca p.cs.length cc,p.an,.slice sa p.st.length sc,p.rounds],.agg #[.slice a2 ch.length c2],.agg #[.int .u8 (x0:Int),.int .u8 (x1:Int),.int .u8 (x2:Int),.int .u8 (x3:Int)]] W (Post W (SceQ ch))):=zhd fun W hW=>Yd (hc.ext hW) (hs.ext hW) (h2.ext hW) b0 b1 b2;have ex:=zh (zh (ze w (.cells #[p.n,p.ins,p.outs,.slice ca p.cs.length cc,p.an,.slice sa p.st.length sc,p.rounds] 29)) (.cells #[.slice a2 ch.length c2] 38)) (.cells #[.int .u8 (x0:Int),.int .u8 (x1:Int),.int .u8 (x2:Int),.int .u8 (x3:Int)] 94);have R1:=(((zi w [p.n,p.ins,p.outs,.slice ca p.cs.length cc,p.an,.slice sa p.st.length sc,p.rounds] 29).alloc (.cells #[.slice a2 ch.length c2] 38)).alloc (.cells #[.int .u8 (x0:Int),.int .u8 (x1:Int),.int .u8 (x2:Int),.int .u8 (x3:Int)] 94));have RU1:=((zi (w.alloc (.cells #[p.n,p.ins,p.outs,.slice ca p.cs.length cc,p.an,.slice sa p.st.length sc,p.rounds] 29)) [.slice a2 ch.length c2] 38).alloc (.cells #[.int .u8 (x0:Int),.int .u8 (x1:Int),.int .u8 (x2:Int),.int .u8 (x3:Int)] 94));have RB:=(zi ((w.alloc (.cells #[p.n,p.ins,p.outs,.slice ca p.cs.length cc,p.an,.slice sa p.st.length sc,p.rounds] 29)).alloc (.cells #[.slice a2 ch.length c2] 38)) [.int .u8 (x0:Int),.int .u8 (x1:Int),.int .u8 (x2:Int),.int .u8 (x3:Int)] 94);simp only[World.size_alloc]at RU1 RB;clear hc hs h2;have zR10:=R1.zc 0 rfl;have zR11:=R1.zc 1 rfl;have zR12:=R1.zc 2 rfl;have zR13:=R1.zc 3 rfl;have zR14:=R1.zc 4 rfl;have zR15:=R1.zc 5 rfl;have zR16:=R1.zc 6 rfl;have lR1:=R1.lt;have zRU10:=RU1.zc 0 rfl;have lRU1:=RU1.lt;have zRB0:=RB.zc 0 rfl;have zRB1:=RB.zc 1 rfl;have zRB2:=RB.zc 2 rfl;have zRB3:=RB.zc 3 rfl;have lRB:=RB.lt;go_enter Tryz.func13,Tryz.ntmps13;go_wp2_with fail;refine (KS.out _ ex).mono ?_;rintro _ w1 ⟨_,rfl,hb,v,u,gx,gy,gz,b,s,rfl,hsy,hok⟩;replace R1:=R1.ext hb;replace RU1:=RU1.ext hb;replace RB:=RB.ext hb;replace ex:=za ex hb;clear hb KS zR10 zR11 zR12 zR13 zR14 zR15 zR16 lR1 zRU10 lRU1 zRB0 zRB1 zRB2 zRB3 lRB;have HSY0:=hsy;obtain ⟨vc,vs,vt,vx,rfl,hc,hs,ht,hx⟩:=hsy;obtain ⟨ca2,cc2,rfl,_⟩:=hc.form;obtain ⟨sa2,sc2,rfl,_⟩:=hs.form;obtain ⟨ta2,tc2,rfl,_⟩:=ht.form;obtain ⟨xa2,xc2,rfl,_⟩:=hx.form2;have HTV0:=ht;obtain ⟨_,_,hee2,tad,_⟩:=ht.form2;cases hee2;obtain ⟨i0,hi0,hz0⟩:=zK zO;have HQV:=zhd (zM Tryz.underlying30 hi0 hz0 tad);clear hi0 hz0 tad i0;clear hc hs ht hx R1 RU1;have RS:=(zi w1 [s.p.n,s.p.ins,s.p.outs,.slice ca2 s.p.cs.length cc2,s.p.an,.slice sa2 s.p.st.length sc2,s.p.rounds,s.tn,.slice ta2 s.tab.length tc2,.slice xa2 s.ex.length xc2] 35).alloc (.cells #[gx,gy,gz] 68);have RP:=zi (w1.alloc (.cells #[s.p.n,s.p.ins,s.p.outs,.slice ca2 s.p.cs.length cc2,s.p.an,.slice sa2 s.p.st.length sc2,s.p.rounds,s.tn,.slice ta2 s.tab.length tc2,.slice xa2 s.ex.length xc2] 35)) [gx,gy,gz] 68;have e2:=zh (ze w1 (.cells #[s.p.n,s.p.ins,s.p.outs,.slice ca2 s.p.cs.length cc2,s.p.an,.slice sa2 s.p.st.length sc2,s.p.rounds,s.tn,.slice ta2 s.tab.length tc2,.slice xa2 s.ex.length xc2] 35)) (.cells #[gx,gy,gz] 68);rw[World.size_alloc]at RP;go_upto_region 2 with fail;obtain ⟨w2,hw2⟩:=zn ((w1.alloc (.cells #[s.p.n,s.p.ins,s.p.outs,.slice ca2 s.p.cs.length cc2,s.p.an,.slice sa2 s.p.st.length sc2,s.p.rounds,s.tn,.slice ta2 s.tab.length tc2,.slice xa2 s.ex.length xc2] 35)).alloc (.cells #[gx,gy,gz] 68));rw[←hw2]at RS RP e2 ⊢;have HSY:=zhd (HSY0.ext e2);have HTV:=zhd (HTV0.ext e2);clear HTV0;replace RB:=RB.ext e2;replace ex:=za ex e2;obtain ⟨PB,hPB⟩:∃b,b=w1.heap.size+1:=⟨_,rfl⟩;obtain ⟨ST,hST⟩:∃b,b=w1.heap.size:=⟨_,rfl⟩;rw[←hPB]at RP ⊢;rw[←hST]at RS ⊢;clear hw2 hPB hST;cases b with
 | false=>
  clear hok RS RP e2 HSY HSY0 RB HTV;go_wp2_with fail;refine (yw _).mono ?_;rintro _ w99 ⟨_,rfl,hb,rfl⟩;replace ex:=za ex hb;clear hb;go_wp2;go_ret;exact .mk ex rfl
 | true=>
 obtain ⟨hfq,h0,hL,hk,hx,hy,hz,hyz⟩:=hok rfl;clear hok;have hg:=(yj HSY0 h0).1;obtain ⟨ua,uc,rfl,_⟩:=hL.form;rw[zP]at hL ⊢;have HL:=zhd (hL.ext e2);have hver:=(ZY h0).1;have hme:=zhh (ch:=ch) hg hver hk;have HGS:=zhd hg;have HFQ:=zhd hfq;have HME:=zhd hme;obtain ⟨N,hN⟩:=zn s.N;obtain ⟨K,hK⟩:=zn s.K;have hN5:N≤5:=by rw[hN];exact hg.pok.n1.2
 have hK6:K≤6:=by rw[hK];exact hg.K6
 rw[hg.rnd,hg.tn,←hN,←hK]at RS;have HKN:Hid (K=s.K∧N=s.N∧s.p.rounds=K∧s.tn=N):=zhd ⟨hK,hN,by rw[hK];exact hg.rnd,by rw[hN];exact hg.tn⟩;clear hg hver hme HSY0 hfq hL e2 hN hK;obtain ⟨cl,hcl⟩:=zn (quoL s ch);rw[←hcl]at HL HME;have hclen:cl.length=s.tab.length:=by rw[hcl];exact zP s ch
 have KLAW:Hid (∀u v:Nat,u<s.tab.length→v<s.tab.length→prcT s.tab u=prcT s.tab v→rndT s.tab u=rndT s.tab v→0<rndT s.tab u→tolL s cl u=tolL s cl v→nth cl u=nth cl v):=zhd (by rw[hcl];exact fun u v hu hv hp hr h0 he=>zhN HGS.out ch hu hv hp hr h0 he);have KT:Hid (∀W,Below w2.heap.size w2 W→∀u:Nat,u<s.tab.length→0<rndT s.tab u→Calls Tryz.prog 43 #[.agg #[s.p.n,s.p.ins,s.p.outs,.slice ca2 s.p.cs.length cc2,s.p.an,.slice sa2 s.p.st.length sc2,K,N,.slice ta2 s.tab.length tc2,.slice xa2 s.ex.length xc2],.slice ua s.tab.length uc,u] W (Post W fun w' r=>∃a c,r=.tuple #[.slice a N c,.bool true]∧Ints TT w' (.slice a N c) (tolL s cl u))):=zhd fun W hW u hu h0=>by
  have h:=zeH (HSY.out.ext hW) HFQ.out.1.p.few (HL.out.ext hW) HFQ.out.2 HME.out hu h0;rw[HKN.out.2.2.1,HKN.out.2.2.2]at h;exact h.mono fun _ _ h=>zV h fun w' r hr=>by
   obtain ⟨x,rfl,hi⟩:=hr;obtain ⟨a,c,rfl,_⟩:=hi.form;rw[zep,←HKN.out.2.1]at hi ⊢;exact ⟨a,c,rfl,hi.mono fun _ _=>trivial⟩
 have hn:=YU HGS.out;have hm120:s.tab.length≤120:=HFQ.out.2;have HLQ:Hid (∀k,k<s.tab.length→∀W:World,(Instr.indexAt 36 (.slice ua s.tab.length uc) (.int .i64 k)).run Tryz.prog W=.ok (.pointer (some (adr ua k))) W):=zhd fun k hk W=>HL.out.idx (k:=k) (by rw[hclen];exact hk) W;have T0:=Below.refl w2.heap.size w2;clear hcl h0 hk hx hy hz hyz RP;obtain ⟨d0,d1,d2,d3,d4,d5,d6,d7,d8,d9⟩:=RS.ten;have lS:=RS.lt;have q0:=RB.zc 0 rfl;have q1:=RB.zc 1 rfl;have lB:=RB.lt;have dn:((s.tab.length:Int)==0)=false:=by rw[beq_eq_false_iff_ne];omega
 obtain ⟨e,hee⟩:=zn (x0 % s.tab.length);obtain ⟨f,hff⟩:=zn (x1 % s.tab.length);have wx:=wrapB x0 b0;have wy:=wrapB x1 b1;have m1:Int.tmod (x0:Int) (s.tab.length:Int)=(e:Int):=by rw[tmodQ,hee]
 have m2:Int.tmod (x1:Int) (s.tab.length:Int)=(f:Int):=by rw[tmodQ,hff]
 have he:e<s.tab.length:=by rw[hee];exact Nat.mod_lt _ hn
 have hf:f<s.tab.length:=by rw[hff];exact Nat.mod_lt _ hn
 have hn0:¬(s.tab.length:Int)=0:=by omega
 clear hee hff b0 b1 b2;go_upto_region 4 with fail;go_quiet (fail);clear wx wy m1 m2 dn q0 q1 lB d0 d1 d2 d3 d4 d5 d6 d7 d8 d9 lS;obtain ⟨w4,hw4⟩:=zn (w2.drewN nq);rw[←hw4];have hb:Below w2.heap.size w2 w4:=by rw[hw4];exact zb _ _ _
 replace RS:=RS.ext hb;replace ex:=za ex hb;replace T0:=za T0 hb;clear hw4 hb RB;have HTB:=zhd HGS.out.tab;have hTV:=HTV.out.ext T0;have uq:=HQV.out e he;obtain ⟨u0,ur⟩:=hTV.nums (k:=e) he (by decide);have f0:=(yO HTB.out he).1;have f1:=(yA HTB.out he).1;obtain ⟨y,hy⟩:=zn (nthL s.tab e);obtain ⟨P,hP⟩:=zn (prcT s.tab e);obtain ⟨R,hR⟩:=zn (rndT s.tab e);rw[←hy]at u0 ur f0 f1;rw[←hP]at f0;rw[←hR]at f1;have HPR:Hid (P=prcT s.tab e∧R=rndT s.tab e):=zhd ⟨hP,hR⟩;have HE0:=zhd f0;have HE1:=zhd f1;clear hy hP hR f0 f1 hTV;have u1:=ur 1 (by decide);have u2:=ur 2 (by decide);have u3:=ur 3 (by decide);have u4:=ur 4 (by decide);have u5:=ur 5 (by decide);have u6:=ur 6 (by decide);have u7:=ur 7 (by decide);have bu:=World.block_lt_of_cell? _ _ u0;obtain ⟨d0,d1,d2,d3,d4,d5,d6,d7,d8,d9⟩:=RS.ten;have lS:=RS.lt;clear ur;go_upto_region 6 with fail;have hb:=ze w4 (.cells #[nth y 0,nth y 1,nth y 2,nth y 3,nth y 4,nth y 5,nth y 6,nth y 7] 65);have RX:=zi w4 [nth y 0,nth y 1,nth y 2,nth y 3,nth y 4,nth y 5,nth y 6,nth y 7] 65;obtain ⟨w5,hw5⟩:=zn (w4.alloc (.cells #[nth y 0,nth y 1,nth y 2,nth y 3,nth y 4,nth y 5,nth y 6,nth y 7] 65));obtain ⟨XB,hXB⟩:∃b,b=w4.heap.size:=⟨_,rfl⟩;rw[←hw5]at RX hb ⊢;rw[←hXB]at RX ⊢;replace RS:=RS.ext hb;replace ex:=za ex hb;replace T0:=za T0 hb;clear hw5 hXB hb u0 u1 u2 u3 u4 u5 u6 u7 bu uq d0 d1 d2 d3 d4 d5 d6 d7 d8 d9 lS;have c1:=RX.zc 1 rfl;rw[HE1.out]at c1;have lX:=RX.lt;by_cases hR0:R=0
 ·have dR:((R:Int)==0)=true:=by simp[hR0]
  clear hR0;go_wp2_with fail;refine (yw _).mono ?_;rintro _ w99 ⟨_,rfl,hb,rfl⟩;replace ex:=za ex hb;clear hb;go_wp2;go_ret;exact .mk ex rfl
 have dR:((R:Int)==0)=false:=by rw[beq_eq_false_iff_ne];omega
 have KT1:=zhd (fun W hW=>KT.out W hW e he (by rw[←HPR.out.2];omega));obtain ⟨d0,d1,d2,d3,d4,d5,d6,d7,d8,d9⟩:=RS.ten;have lS:=RS.lt;go_wp2_with fail;refine (KT1.out _ T0).mono ?_;rintro _ w6 ⟨_,rfl,hb,at',ct,rfl,hi⟩;replace RS:=RS.ext hb;replace RX:=RX.ext hb;replace ex:=za ex hb;replace T0:=za T0 hb;have HA:=zhd hi;clear hb hi KT1 dR c1 lX d0 d1 d2 d3 d4 d5 d6 d7 d8 d9 lS;have T6:=Below.refl w6.heap.size w6;obtain ⟨M,hM⟩:=zn (min 8 s.tab.length);have hmn:(if s.tab.length<8 then (s.tab.length:Int) else 8)=(M:Int):=by split<;>omega
 have hmn2:(if (s.tab.length:Int)<8 then (s.tab.length:Int) else 8)=(M:Int):=by split<;>omega
 have hmn3:min (8:Int) (s.tab.length:Int)=(M:Int):=by omega
 have hM8:M≤8:=by omega
 clear hM;go_wp2;clear hmn hmn2 hmn3;go_loopw [16,17,18,19,20,67] (fun _ _ _ _ _ kv wr=>∃k:Nat,k≤M∧kv=.int .i64 k∧Below w.heap.size w wr∧Below w2.heap.size w2 wr∧Below w6.heap.size w6 wr∧Row wr ST 35 [s.p.n,s.p.ins,s.p.outs,.slice ca2 s.p.cs.length cc2,s.p.an,.slice sa2 s.p.st.length sc2,K,N,.slice ta2 s.tab.length tc2,.slice xa2 s.ex.length xc2]∧Row wr XB 65 [nth y 0,nth y 1,nth y 2,nth y 3,nth y 4,nth y 5,nth y 6,nth y 7]) (fun _ _ _ _ _ kv _=>M - (intOf kv).toNat)
 case atStart=>exact ⟨0,Nat.zero_le _,rfl,ex,T0,T6,RS,RX⟩
 case round=>
  clear ex T0 T6 RS RX;obtain ⟨k,hk,rfl,ex,T0,T6,RS,RX⟩:=hrel;by_cases hlt:k<M
  case neg=>
   clear T0 T6 RS RX;go_wp2_with fail;refine (yw _).mono ?_;rintro _ w99 ⟨_,rfl,hb,rfl⟩;replace ex:=za ex hb;clear hb;go_wp2;go_ret;exact .mk ex rfl
  obtain ⟨g,hgg⟩:=zn ((f+k) % s.tab.length);have hgL:g<s.tab.length:=by rw[hgg];exact Nat.mod_lt _ hn
  have m3:Int.tmod ((f:Int)+(k:Int)) (s.tab.length:Int)=(g:Int):=by rw[←Int.natCast_add,tmodQ,hgg]
  have wfk:wrap64 ((f:Int)+(k:Int))=(f:Int)+(k:Int):=by rw[IntWalk.wrap64_in _ (by omega)]
  have hnz:¬s.tab.length=0:=by omega
  have hTV:=HTV.out.ext T0;have uq:=HQV.out g hgL;obtain ⟨u0,ur⟩:=hTV.nums (k:=g) hgL (by decide);have f0:=(yO HTB.out hgL).1;have f1:=(yA HTB.out hgL).1;obtain ⟨yg,hyg⟩:∃y,y=nthL s.tab g:=⟨_,rfl⟩;obtain ⟨Pg,hPg⟩:∃P,P=prcT s.tab g:=⟨_,rfl⟩;obtain ⟨Rg,hRg⟩:∃R,R=rndT s.tab g:=⟨_,rfl⟩;rw[←hyg]at u0 ur f0 f1;rw[←hPg]at f0;rw[←hRg]at f1;have HPG:Hid (Pg=prcT s.tab g∧Rg=rndT s.tab g):=zhd ⟨hPg,hRg⟩;have HG0:=zhd f0;have HG1:=zhd f1;clear hyg hPg hRg f0 f1 hTV hgg;have u1:=ur 1 (by decide);have u2:=ur 2 (by decide);have u3:=ur 3 (by decide);have u4:=ur 4 (by decide);have u5:=ur 5 (by decide);have u6':=ur 6 (by decide);have u7:=ur 7 (by decide);have bu:=World.block_lt_of_cell? _ _ u0;obtain ⟨d0,d1,d2,d3,d4,d5,d6,d7,d8,d9⟩:=RS.ten;have lS:=RS.lt;clear ur;go_upto_region 16 with fail;have hb:=ze wr (.cells #[nth yg 0,nth yg 1,nth yg 2,nth yg 3,nth yg 4,nth yg 5,nth yg 6,nth yg 7] 65);have RY:=zi wr [nth yg 0,nth yg 1,nth yg 2,nth yg 3,nth yg 4,nth yg 5,nth yg 6,nth yg 7] 65;obtain ⟨w7,hw7⟩:=zn (wr.alloc (.cells #[nth yg 0,nth yg 1,nth yg 2,nth yg 3,nth yg 4,nth yg 5,nth yg 6,nth yg 7] 65));obtain ⟨YB,hYB⟩:∃b,b=wr.heap.size:=⟨_,rfl⟩;rw[←hw7]at RY hb ⊢;rw[←hYB]at RY ⊢;replace RS:=RS.ext hb;replace RX:=RX.ext hb;replace ex:=za ex hb;replace T0:=za T0 hb;replace T6:=za T6 hb;clear hw7 hYB hb u0 u1 u2 u3 u4 u5 u6' u7 bu uq m3 wfk hnz d0 d1 d2 d3 d4 d5 d6 d7 d8 d9 lS;have c0:=RX.zc 0 rfl;have c1:=RX.zc 1 rfl;rw[HE0.out]at c0;rw[HE1.out]at c1;have lX:=RX.lt;have g0:=RY.zc 0 rfl;have g1:=RY.zc 1 rfl;rw[HG0.out]at g0;rw[HG1.out]at g1;have lY:=RY.lt;by_cases hpp:Pg=P
  case neg=>
   have dP:((Pg:Int) !=(P:Int))=true:=by rw[bne_iff_ne];omega
   clear hpp RY;go_wp2;go_roundw
   case rel=>exact ⟨k+1,by omega,by go_num,ex,T0,T6,RS,RX⟩
   case measure=>simp[intOf];omega
  have dP:((Pg:Int) !=(P:Int))=false:=by simp[hpp]
  by_cases hrr:Rg=R
  case neg=>
   have dQ:((Rg:Int) !=(R:Int))=true:=by rw[bne_iff_ne];omega
   clear hpp hrr RY;go_wp2;go_roundw
   case rel=>exact ⟨k+1,by omega,by go_num,ex,T0,T6,RS,RX⟩
   case measure=>simp[intOf];omega
  have dQ:((Rg:Int) !=(R:Int))=false:=by simp[hrr]
  have KT2:=zhd (fun W hW=>KT.out W hW g hgL (by rw[←HPG.out.2,hrr];omega));have HLW:=zhd (fun he2=>KLAW.out e g he hgL (by rw[←HPR.out.1,←HPG.out.1,hpp]) (by rw[←HPR.out.2,←HPG.out.2,hrr]) (by rw[←HPR.out.2];omega) he2);obtain ⟨d0,d1,d2,d3,d4,d5,d6,d7,d8,d9⟩:=RS.ten;have lS:=RS.lt;clear hpp hrr RY;go_wp2_with fail;refine (KT2.out _ T0).mono ?_;rintro _ w8 ⟨_,rfl,hb,au,cu,rfl,hi⟩;replace RS:=RS.ext hb;replace RX:=RX.ext hb;replace ex:=za ex hb;replace T0:=za T0 hb;replace T6:=za T6 hb;have HB:=zhd hi;have HA8:=zhd (HA.out.ext T6);obtain ⟨q,hq⟩:=zn (decide (tolL s cl e=tolL s cl g));have KE:Hid (∀W,Below w8.heap.size w8 W→Calls Tryz.prog 27 #[.slice at' N ct,.slice au N cu] W (Post W fun _ r=>r=.bool q)):=zhd fun W hW=>by
   rw[hq];exact ZH (HA8.out.ext hW) (HB.out.ext hW)
  have hL8:=HL.out.ext T0;have he2:e<cl.length:=by rw[hclen];exact he
  have hg2:g<cl.length:=by rw[hclen];exact hgL
  have ce:=hL8.cellN (k:=e) he2;have cg:=hL8.cellN (k:=g) hg2;have qe:=HLQ.out e he;have qg:=HLQ.out g hgL;have be:=World.block_lt_of_cell? _ _ ce;have bg:=World.block_lt_of_cell? _ _ cg;obtain ⟨le,hle⟩:∃l,l=nth cl e:=⟨_,rfl⟩;obtain ⟨lg,hlg⟩:∃l,l=nth cl g:=⟨_,rfl⟩;rw[←hle]at ce;rw[←hlg]at cg;have HQL:Hid (q=true→le=lg):=zhd fun h=>by
   rw[hq,decide_eq_true_iff]at h;rw[hle,hlg];exact HLW.out h
  have KL:Hid (∀w',Below w8.heap.size w8 w'→(fun w':World=>w'.cell? (adr ua e)=some (.int .i64 le)∧w'.cell? (adr ua g)=some (.int .i64 lg)) w'):=zhd fun w' hw=>⟨zm ce hw,zm cg hw⟩;have y1:=zb w8.heap.size w8 1;clear hb hi KT2 HLW hq hle hlg he2 hg2 hL8 HA8 HB dP dQ c0 c1 lX g0 g1 lY d0 d1 d2 d3 d4 d5 d6 d7 d8 d9 lS;go_upto_region 18 with fail;cases q with
  | true=>
   have dl:(le !=lg)=false:=by simp[HQL.out rfl]
   clear HQL;refine zF (fun w':World=>w'.cell? (adr ua e)=some (.int .i64 le)∧w'.cell? (adr ua g)=some (.int .i64 lg)) (fun i=>false) (by kernel_rfl) ?_ (fun hHeld=>?_)
   ·exact KL.out _ y1
   refine zt 0 hHeld ?_;refine zt 1 hHeld ?_;refine zt 2 hHeld ?_;refine zt 3 hHeld ?_;refine zt 4 hHeld ?_;refine zo 5 (fun K hK=>?_)
   (go_simp;go_at_call 27;refine (KE.out _ y1).mono ?_;rintro _ v9 ⟨_,rfl,hb,rfl⟩;have y9:=za y1 hb;clear hb)
   refine zk hK (KL.out _ y9) (fun hHeld=>?_);clear hK K;refine zt 6 hHeld ?_;refine zt 7 hHeld ?_;refine zt 8 hHeld ?_;refine zt 9 hHeld ?_;refine zt 10 hHeld ?_;refine zt 11 hHeld ?_;refine zt 12 hHeld ?_;refine zt 13 hHeld ?_;refine zt 14 hHeld ?_;refine zt 15 hHeld ?_;refine zt 16 hHeld ?_;refine zt 17 hHeld ?_;refine zz (by kernel_rfl) ?_ _;clear hHeld KL;have RS9:=RS.ext y9;have RX9:=RX.ext y9;have ex9:=za ex y9;have T9:=za T0 y9;have T69:=za T6 y9;clear RS RX ex T0 T6 y1 y9 KE;go_wp2;go_roundw
   case rel=>exact ⟨k+1,by omega,by go_num,ex9,T9,T69,RS9,RX9⟩
   case measure=>simp[intOf];omega
  | false=>
   clear HQL;refine zF (fun w':World=>w'.cell? (adr ua e)=some (.int .i64 le)∧w'.cell? (adr ua g)=some (.int .i64 lg)) (fun i=>false) (by kernel_rfl) ?_ (fun hHeld=>?_)
   ·exact KL.out _ y1
   refine zt 0 hHeld ?_;refine zt 1 hHeld ?_;refine zt 2 hHeld ?_;refine zt 3 hHeld ?_;refine zt 4 hHeld ?_;refine zo 5 (fun K hK=>?_)
   (go_simp;go_at_call 27;refine (KE.out _ y1).mono ?_;rintro _ v9 ⟨_,rfl,hb,rfl⟩;have y9:=za y1 hb;clear hb)
   refine zk hK (KL.out _ y9) (fun hHeld=>?_);clear hK K;refine zt 6 hHeld ?_;refine zy 7 rfl (by kernel_rfl) (fun _ _ _ h=>h) (by rfl) hHeld ?_;try simp only[Act.put,zsa,zsz,zss]
   refine zy 8 rfl (by kernel_rfl) (fun _ _ _ h=>h) (by rfl) hHeld ?_;try simp only[Act.put,zsa,zsz,zss]
   refine zy 9 rfl (by kernel_rfl) (fun _ _ _ h=>h) (by rfl) hHeld ?_;try simp only[Act.put,zsa,zsz,zss]
   refine zy 10 rfl (by kernel_rfl) (fun _ _ _ h=>h) (by rfl) hHeld ?_;try simp only[Act.put,zsa,zsz,zss]
   refine zy 11 rfl (by kernel_rfl) (fun _ _ _ h=>h) (by rfl) hHeld ?_;try simp only[Act.put,zsa,zsz,zss]
   refine zy 12 rfl (by kernel_rfl) (fun _ _ _ h=>h) (by rfl) hHeld ?_;try simp only[Act.put,zsa,zsz,zss]
   refine zy 13 rfl (by kernel_rfl) (fun _ _ _ h=>h) (by rfl) hHeld ?_;try simp only[Act.put,zsa,zsz,zss]
   refine zy 14 rfl (by kernel_rfl) (fun _ _ _ h=>h) (by rfl) hHeld ?_;try simp only[Act.put,zsa,zsz,zss]
   refine zy 15 rfl (by kernel_rfl) (fun _ _ _ h=>h) (by rfl) hHeld ?_;try simp only[Act.put,zsa,zsz,zss]
   refine zt 16 hHeld ?_;refine zt 17 hHeld ?_;refine zz (by kernel_rfl) ?_ _;clear hHeld KL;have RS9:=RS.ext y9;have RX9:=RX.ext y9;have ex9:=za ex y9;have T9:=za T0 y9;have T69:=za T6 y9;clear RS RX ex T0 T6 y1 y9 KE;go_wp2;go_roundw
   case rel=>exact ⟨k+1,by omega,by go_num,ex9,T9,T69,RS9,RX9⟩
   case measure=>simp[intOf];omega
end Go.Proofs.YtiabbjolepnjkaaGreat
