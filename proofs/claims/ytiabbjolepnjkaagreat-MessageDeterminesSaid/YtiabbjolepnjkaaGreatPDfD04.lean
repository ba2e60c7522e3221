/- Part of the proof that the laws answer true for every input. -/
import Derived.Test.YtiabbjolepnjkaaGreatPDfB11
import Derived.Test.YtiabbjolepnjkaaGreatPDfD03
set_option linter.unusedSimpArgs false
set_option linter.unnecessarySimpa false
set_option linter.unusedVariables false
set_option maxRecDepth 100000
set_option maxHeartbeats 40000000
namespace Go.Proofs.YtiabbjolepnjkaaGreat
open Go.RowKit
attribute [local go_sem ↓] Go.wp_at_zero Go.wp_at_succ
def tolL (s:SysF) (cl:List Int) (u:Nat):List Int:=(List.range s.N).map (tolV s.tab cl (rndT s.tab u - 1) (prcT s.tab u) u)
theorem zep (s:SysF) (cl:List Int) (u:Nat):(tolL s cl u).length=s.N:=by simp[tolL]
theorem zdA {s:SysF} {cl:List Int} {u k:Nat} (hk:k<s.N):nth (tolL s cl u) k=tolV s.tab cl (rndT s.tab u - 1) (prcT s.tab u) u k:=by simp[tolL,nth,hk]
def TolI (E:List Int) (N k:Nat) (L:List Int):Prop:=L.length=N∧∀j,j<k→nth L j=nth E j
theorem TolI.step {E:List Int} {N k:Nat} {L:List Int} {x:Int} (h:TolI E N k L) (hk:k<N) (e:x=nth E k):TolI E N (k+1) (L.set k x):=by
 refine ⟨by rw[List.length_set];exact h.1,fun j hj=>?_⟩;by_cases q:k=j
 ·subst q;rw[e];simp[nth,h.1,hk]
 ·have:=h.2 j (by omega);unfold nth at this ⊢;rw[List.getD_eq_getElem?_getD,List.getElem?_set_ne q,←List.getD_eq_getElem?_getD];exact this
theorem TolI.pre {E:List Int} {N k:Nat} {L:List Int} {x:Int} (h:TolI E N k L):TolI E N k (L.set k x):=by
 refine ⟨by rw[List.length_set];exact h.1,fun j hj=>?_⟩;have:=h.2 j hj;unfold nth at this ⊢;rw[List.getD_eq_getElem?_getD,List.getElem?_set_ne (by omega),←List.getD_eq_getElem?_getD];exact this
theorem zbX {s:SysF} (hg:GoodS s s.N s.K) {cl:List Int} (hme:mesE s cl=0) (hgd:Good cl) (hl:cl.length=s.tab.length) {u:Nat} (hu:u<s.tab.length) (h0:0<rndT s.tab u) {k:Nat} (hk:k<s.N):
  (nth (nthL s.tab u) (3+k)= -1∧nth (tolL s cl u) k= -1)∨∃a c:Nat,a<s.tab.length∧nth (nthL s.tab u) (3+k)=(a:Int)∧nth cl a=(c:Int)∧c<mN cl∧
   ((k=prcT s.tab u∧nth (tolL s cl u) k=(c:Int))∨(k≠prcT s.tab u∧plcE s cl ((rndT s.tab u - 1:Nat):Int) (k:Int) (prcT s.tab u:Int)=0∧nth (tolL s cl u) k=nth (symL s.tab cl (rndT s.tab u - 1) k (prcT s.tab u) (mN cl)) c)):=by
 rw[zdA hk];obtain ⟨q,r,hv⟩:=hg.tab.2 u hu;have hN5:=hg.tab.1;rcases hv.heard k (by omega) with h | ⟨a,ha,he,_⟩
 ·exact .inl ⟨h,za5 h⟩
 ·obtain ⟨c,hc,hca⟩:=zfu hgd (v:=a) (by omega);refine .inr ⟨a,c,by omega,he,hca,hc,?_⟩;rw[zbS he hca];have hp:=hv.prc;have hr:=hv.rnd;have h1:=hg.rnd;have h2:=hg.tn;have h3:=hv.ql;have h4:=hv.kl;by_cases e:k=prcT s.tab u
  ·exact .inl ⟨e,by rw[if_pos e]⟩
  ·refine .inr ⟨e,?_,by rw[if_neg e,YI _ _ _ _ _ hc]⟩;unfold plcE;rw[if_pos hme,if_neg (by omega),if_neg (by omega),if_neg (by omega)]
theorem zkh {s:SysF} (hg:GoodS s s.N s.K) {cl:List Int} (hme:mesE s cl=0) (hgd:Good cl) (hl:cl.length=s.tab.length) (hm:s.tab.length≤120) {u:Nat} (hu:u<s.tab.length) (h0:0<rndT s.tab u) {k:Nat} (hk:k<s.N):
  -1≤nth (tolL s cl u) k∧nth (tolL s cl u) k≤60000:=by
 have hmn:=zdB hgd;rcases zbX hg hme hgd hl hu h0 hk with ⟨_,h⟩ | ⟨a,c,_,_,_,hc,h⟩
 ·omega
 ·rcases h with ⟨_,h⟩ | ⟨_,_,h⟩
  ·omega
  ·rw[h,YI _ _ _ _ _ hc];obtain ⟨b1,b2,_⟩:=yE (r:=rndT s.tab u - 1) (f:=k) (t:=prcT s.tab u) hg.tab hg.nodup (yl hgd hl) hc;have:=xP (r:=rndT s.tab u - 1) (f:=k) (t:=prcT s.tab u) hg.tab hg.nodup (yl hgd hl) (mN cl) (Nat.le_refl _);omega
theorem zeH {w:World} {v vcl:Value} {s:SysF} {cl:List Int} {u:Nat} (h:SysV TT w v s) (hf:PFew s.p) (h3:Ints TT w vcl cl) (hm:s.tab.length≤120) (hme:mesE s cl=0) (hu:u<s.tab.length) (h0:0<rndT s.tab u):
  Calls Tryz.prog 43 #[v,vcl,u] w (Post w fun w' r=>∃x,r=.tuple #[x,.bool true]∧Ints (fun b=>w.heap.size≤b) w' x (tolL s cl u)):=by
 obtain ⟨g1,g2,g3,_⟩:=zd5 hme;have hg:=qG g1 h.moves8;have KS:Hid (∀W,Below w.heap.size w W→∀r f t:Int,Calls Tryz.prog 29 #[v,vcl,.agg #[r,f,t]] W (Post W (SymR W.heap.size s cl r f t))):=zhd fun W hW r f t=>xJ r f t (h.ext hW) hf (h3.ext hW) hm;have HC:Hid (∀k,k<s.N→_):=zhd fun k hk=>zbX hg hme g2 g3 hu h0 hk;have HW:Hid (∀k,k<s.N→_):=zhd fun k hk=>zkh hg hme g2 g3 hm hu h0 hk;have htn:=hg.tn;have hN5:=hg.tab.1;obtain ⟨q0,r0,hv⟩:=hg.tab.2 u hu;have hp:=hv.prc;have hr:=hv.rnd;have e0:=hv.q0;have e1:=hv.k0;have l8:=hv.len;have hq5:q0<s.N:=hv.ql;rw[←hp]at e0 hq5;rw[←hr]at e1;obtain ⟨ca,cc,sa,sc,ta,tc,xa,xc,rfl,hc,hs,ht,hx⟩:=h.zf;obtain ⟨_,_,hee,tad,_⟩:=ht.form2;cases hee;obtain ⟨i0,hi,hz⟩:=zK zO;have HQ:=zhd (zM Tryz.underlying30 hi hz tad);obtain ⟨a2,c2,rfl,_⟩:=h3.form;have HI:=zhd h3;have uq:=HQ.out u hu;obtain ⟨u0,ur⟩:=ht.nums (k:=u) hu (by decide);obtain ⟨y,hy⟩:=zn (nthL s.tab u);obtain ⟨P,hP⟩:=zn (prcT s.tab u);obtain ⟨Q,hQ⟩:=zn (rndT s.tab u - 1);obtain ⟨N,hN⟩:=zn s.N;obtain ⟨E,hE⟩:=zn (tolL s cl u);have HPQ:Hid (P=prcT s.tab u∧Q=rndT s.tab u - 1∧N=s.N):=zhd ⟨hP,hQ,hN⟩;rw[←hE]at HC HW ⊢;rw[←hN]at HC HW hN5 htn hq5;rw[htn]at KS ⊢;rw[←hy,←hP]at e0;rw[←hy]at e1 u0 ur l8;rw[←hP]at hq5;have e1':nth y 1=((Q+1:Nat):Int):=by rw[e1,hQ];congr 1;omega
 rw[←hP,←hQ,←hy]at HC;have hwQ:wrap64 (Q:Int)=(Q:Int):=by
  have h1:=hv.kl;have h2:=hg.K6;rw[IntWalk.wrap64_in _ (by omega)]
 have HEL:Hid (E.length=N):=zhd (by rw[hE,hN];exact zep s cl u);have HCL:Hid (cl.length=s.tab.length):=zhd g3;have hmk:=run_make_row' 36 3 (.int .i64 0) 8 Tryz.underlying36 info3 rfl .i64 .i64 N (by omega) (by omega);have ex0:=ze w (.cells #[s.p.n,s.p.ins,s.p.outs,.slice ca s.p.cs.length cc,s.p.an,.slice sa s.p.st.length sc,s.p.rounds,N,.slice ta s.tab.length tc,.slice xa s.ex.length xc] 35);have R00:=zi w [s.p.n,s.p.ins,s.p.outs,.slice ca s.p.cs.length cc,s.p.an,.slice sa s.p.st.length sc,s.p.rounds,N,.slice ta s.tab.length tc,.slice xa s.ex.length xc] 35;have ex:=zh ex0 (.cells #[nth y 0,nth y 1,nth y 2,nth y 3,nth y 4,nth y 5,nth y 6,nth y 7] 65);have R0:=R00.alloc (.cells #[nth y 0,nth y 1,nth y 2,nth y 3,nth y 4,nth y 5,nth y 6,nth y 7] 65);have RX:=zi (w.alloc (.cells #[s.p.n,s.p.ins,s.p.outs,.slice ca s.p.cs.length cc,s.p.an,.slice sa s.p.st.length sc,s.p.rounds,N,.slice ta s.tab.length tc,.slice xa s.ex.length xc] 35)) [nth y 0,nth y 1,nth y 2,nth y 3,nth y 4,nth y 5,nth y 6,nth y 7] 65;rw[World.size_alloc]at RX;have HE0:=zhd e0;have HE1:=zhd e1';clear e0 e1 e1';have HZ0:Hid (TolI E N 0 (List.replicate N 0)):=zhd ⟨by simp,fun j hj=>by omega⟩;have HL8:=zhd l8;clear l8 hy hc hs ht hx tad hi hz HQ hP hQ hN hE hv hp hr g1 g2 g3 hg h3 htn hme;have u1:=ur 1 (by decide);have u2:=ur 2 (by decide);have u3:=ur 3 (by decide);have u4:=ur 4 (by decide);have u5:=ur 5 (by decide);have u6:=ur 6 (by decide);have u7:=ur 7 (by decide);have bu:=World.block_lt_of_cell? _ _ u0;obtain ⟨t0,t1,t2,t3,t4,t5,t6,t7,t8,t9⟩:=R00.ten;have l0:=R00.lt;clear ur;go_enter Tryz.func43,Tryz.ntmps43;go_upto_region 2 with fail;obtain ⟨wx,hwx⟩:=zn (((w.alloc (.cells #[s.p.n,s.p.ins,s.p.outs,.slice ca s.p.cs.length cc,s.p.an,.slice sa s.p.st.length sc,s.p.rounds,N,.slice ta s.tab.length tc,.slice xa s.ex.length xc] 35)).alloc (.cells #[nth y 0,nth y 1,nth y 2,nth y 3,nth y 4,nth y 5,nth y 6,nth y 7] 65)));obtain ⟨B1,hB1⟩:=zn (w.heap.size+1);rw[←hB1]at RX ⊢;rw[←hwx]at RX R0 ex ⊢;have hB1w:w.heap.size≤B1:=by omega
 clear hwx hB1 u0 u1 u2 u3 u4 u5 u6 u7 bu t0 t1 t2 t3 t4 t5 t6 t7 t8 t9 l0 R00 ex0 uq;have RL:=Row.made wx (.int .i64 0) N 3;rw[show List.replicate N (Value.int .i64 0)=(List.replicate N (0:Int)).map (Value.int .i64) by simp]at RL;have e2:=ze wx (.cells (madeCells #[.int .i64 0] N) 3);have hx1:=RX.lt;have hx0:=R0.lt;obtain ⟨t0,t1,t2,t3,t4,t5,t6,t7,t8,t9⟩:=R0.ten;have l0:=R0.lt;go_wp2;obtain ⟨B2,hB2⟩:=zn wx.heap.size;have hB2w:w.heap.size≤B2:=by omega
 have hB20:some B2≠some w.heap.size:=by intro e;injection e;omega
 have hB21:some B2≠some B1:=by intro e;injection e;omega
 replace R0:=R0.ext e2;replace RX:=RX.ext e2;replace ex:=za ex e2;rw[←hB2]at RL ⊢;clear hmk e2 hx1 hx0 hB2 t0 t1 t2 t3 t4 t5 t6 t7 t8 t9 l0;go_loopw [10,11,12,13,26,70,73] (fun _ _ _ _ kv _ _ wr=>∃(k:Nat) (L:List Int),k≤N∧kv=.int .i64 k∧Hid (TolI E N k L)∧Below w.heap.size w wr∧Row wr w.heap.size 35 [s.p.n,s.p.ins,s.p.outs,.slice ca s.p.cs.length cc,s.p.an,.slice sa s.p.st.length sc,s.p.rounds,N,.slice ta s.tab.length tc,.slice xa s.ex.length xc]∧Row wr B1 65 [nth y 0,nth y 1,nth y 2,nth y 3,nth y 4,nth y 5,nth y 6,nth y 7]∧Row wr B2 3 (L.map (Value.int .i64))) (fun _ _ _ _ kv _ _ _=>N - (intOf kv).toNat)
 case atStart=>exact ⟨0,_,Nat.zero_le _,rfl,HZ0,ex,R0,RX,RL⟩
 case round=>
  clear ex R0 RX RL HZ0;obtain ⟨k,L,hk,rfl,HL,ex,R0,RX,RL⟩:=hrel;have hLl:=HL.out.1;by_cases hlt:k<N
  case neg=>
   have hLE:L=E:=by
    apply List.ext_getElem (by rw[hLl,HEL.out]);intro i h1 h2;have:=HL.out.2 i (by omega);simpa[nth,h1,h2] using this
   have HI2:=zhd (RL.ints (by rw[hLl];unfold maxLen;omega) (fun x hx=>by
    rw[hLE]at hx;obtain ⟨i,h1,rfl⟩:=List.getElem_of_mem hx;have h2:=HEL.out;have:=HW.out i (by omega);rw[show nth E i=E[i] by simp[nth,h1]]at this;exact WF.small (by omega)))
   rw[hLE]at HI2;have h2:=HEL.out;rw[h2]at HI2;replace HI2:=zhd (HI2.out.mono (S':=fun b=>w.heap.size≤b) fun b hb=>by omega);clear hLl HL;go_wp2;go_ret2;exact .mk ex ⟨_,rfl,HI2.out⟩
  have ck:=rowInt RL (k:=k) (by omega);have fk:=RL.free k;have lk:=RL.lt;have qk:=xz B2 N N hlt;have R02:=R0.grown (zj wr B2 k (.int .i64 (-1))) hB20;have RX2:=RX.grown (zj wr B2 k (.int .i64 (-1))) hB21;have RL2:=rowSet RL k (-1);have ex2:=ex.setCell (p:=⟨B2,k,none⟩) hB2w (.int .i64 (-1));have HL2:Hid (TolI E N k (L.set k (-1))):=zhd HL.out.pre;have HLs:Hid (nth E k= -1→TolI E N (k+1) (L.set k (-1))):=zhd fun h=>HL.out.step hlt h.symm;clear ex R0 RX RL HL;go_upto_region 7 with fail;obtain ⟨w5,hw5⟩:=zn (wr.setCell ⟨B2,k,none⟩ (.int .i64 (-1)));rw[←hw5]at R02 RX2 RL2 ex2 ⊢;clear hw5 ck fk lk;have RXm:=RX2;rw[←cells8 HL8.out]at RXm;have cx:w5.cell? ⟨B1,3+k,none⟩=some (.int .i64 (nth y (3+k))):=RXm.cell (by rw[List.getElem?_map,get?_nth (by rw[HL8.out];omega)];rfl);have xi:=qU B1 3 (show k<5 by omega);have c0:=RX2.zc 0 rfl;have c1:=RX2.zc 1 rfl;rw[HE0.out]at c0;rw[HE1.out]at c1;have lx:=RX2.lt;clear RXm;rcases HC.out k hlt with ⟨h1,h2⟩ | ⟨a,c,ha,h1,hca,hcm,h2⟩
  ·rw[h1]at cx;have HL3:=zhd (HLs.out h2);clear HLs h1 h2 HL2;go_wp2;go_roundw
   case rel=>exact ⟨k+1,_,by omega,by go_num,HL3,ex2,R02,RX2,RL2⟩
   case measure=>simp[intOf];omega
  rw[h1]at cx;have hcl:a<cl.length:=by rw[HCL.out];exact ha
  have ca3:=(HI.out.ext ex2).cellN (k:=a) hcl;rw[hca]at ca3;have qa:=HI.out.idx (k:=a) hcl;have ba:=World.block_lt_of_cell? _ _ ca3;have da:decide ((a:Int)<0)=false:=decide_eq_false (by omega);have hl2:(L.set k (-1)).length=N:=by rw[List.length_set];exact hLl
  clear hca h1 HLs;rcases h2 with ⟨hkP,h2⟩ | ⟨hkP,hp0,h2⟩
  ·have dk:((k:Int)==(P:Int))=true:=by simp[hkP]
   have ck2:=rowInt RL2 (k:=k) (by omega);have fk2:=RL2.free k;have lk2:=RL2.lt;have R03:=R02.grown (zj w5 B2 k (.int .i64 (c:Int))) hB20;have RX3:=RX2.grown (zj w5 B2 k (.int .i64 (c:Int))) hB21;have RL3:=rowSet RL2 k (c:Int);have ex3:=ex2.setCell (p:=⟨B2,k,none⟩) hB2w (.int .i64 (c:Int));have HL3:Hid (TolI E N (k+1) ((L.set k (-1)).set k (c:Int))):=zhd (HL2.out.step hlt h2.symm);clear hkP h2 HL2 R02 RX2 RL2 ex2;go_wp2;go_roundw
   case rel=>exact ⟨k+1,_,by omega,by go_num,HL3,ex3,R03,RX3,RL3⟩
   case measure=>simp[intOf];omega
  have dk:((k:Int)==(P:Int))=false:=by rw[beq_eq_false_iff_ne];omega
  have KS2:=zhd (KS.out _ ex2 (Q:Int) (k:Int) (P:Int));have HP0:=zhd hp0;obtain ⟨t0,t1,t2,t3,t4,t5,t6,t7,t8,t9⟩:=R02.ten;have l0:=R02.lt;clear hp0 hkP;go_wp2_with fail;refine KS2.out.mono ?_;rintro _ w6 ⟨_,rfl,hb,hS⟩;rcases hS with ⟨_,v6,rfl,hi⟩ | ⟨h,_⟩
  case inr=>exact absurd HP0.out h
  rw[Int.toNat_natCast,Int.toNat_natCast,Int.toNat_natCast]at hi;obtain ⟨la,lc,rfl,_⟩:=hi.form;rw[yS]at hi ⊢;have cs:=hi.cellN (k:=c) (by rw[yS];exact hcm);rw[←h2]at cs;have qs:∀W:World,(Instr.indexAt 36 (.slice la (mN cl) lc) (.int .i64 c)).run Tryz.prog W=.ok (.pointer (some (adr la c))) W:=fun W=>by
   exact hi.idx (k:=c) (by rw[yS];exact hcm) W
  have bs:=World.block_lt_of_cell? _ _ cs;replace ca3:=zm ca3 hb;replace ba:=World.block_lt_of_cell? _ _ ca3;have R03:=R02.ext hb;have RX3:=RX2.ext hb;have RL3:=RL2.ext hb;have ex3:=za ex2 hb;obtain ⟨z,hz⟩:=zn (nth E k);rw[←hz]at cs;have HL3:Hid (TolI E N (k+1) ((L.set k (-1)).set k z)):=zhd (HL2.out.step hlt hz);obtain ⟨M,hM⟩:=zn (mN cl);rw[←hM]at hcm qs ⊢;have dm1:decide ((M:Int)≤(c:Int))=false:=decide_eq_false (by omega);have dm2:decide (M≤c)=false:=decide_eq_false (by omega);clear hb hi h2 hz hM KS2 HP0 HL2 R02 RX2 RL2 ex2 t0 t1 t2 t3 t4 t5 t6 t7 t8 t9 l0 c0 c1 cx xi lx;have ck2:=rowInt RL3 (k:=k) (by omega);have fk2:=RL3.free k;have lk2:=RL3.lt;have R04:=R03.grown (zj w6 B2 k (.int .i64 z)) hB20;have RX4:=RX3.grown (zj w6 B2 k (.int .i64 z)) hB21;have RL4:=rowSet RL3 k z;have ex4:=ex3.setCell (p:=⟨B2,k,none⟩) hB2w (.int .i64 z);clear R03 RX3 RL3 ex3;go_wp2;go_roundw
  case rel=>exact ⟨k+1,_,by omega,by go_num,HL3,ex4,R04,RX4,RL4⟩
  case measure=>simp[intOf];omega
end Go.Proofs.YtiabbjolepnjkaaGreat
