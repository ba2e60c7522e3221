/- Part of the proof that the laws answer true for every input. -/
import Derived.Test.YtiabbjolepnjkaaGreatPMaC03
set_option linter.unusedSimpArgs false
set_option linter.unnecessarySimpa false
set_option linter.unusedVariables false
set_option maxRecDepth 100000
set_option maxHeartbeats 40000000
namespace Go.Proofs.YtiabbjolepnjkaaGreat
open Go.RowKit
attribute [local go_sem ↓] Go.wp_at_zero Go.wp_at_succ
theorem zaf {n:Nat} (h:n≤100000):wrap64 ((n:Int)+1)=((n+1:Nat):Int):=by rw[IntWalk.wrap64_in _ (by omega)];omega
theorem Yz {S S3:Nat→Prop} {w:World} {v vcl:Value} {s:SysF} {cl:List Int} {r f t:Nat} (h:SysV S w v s) (hg:GoodS s s.N s.K) (h3:Ints S3 w vcl cl) (hm:s.tab.length≤60000) (hG:Good cl) (hl:cl.length=s.tab.length):
  Calls Tryz.prog 66 #[v,vcl,.agg #[r,f,t]] w (Post w fun w' r'=>Ints (fun b=>w.heap.size≤b) w' r' (symL s.tab cl r f t (mN cl))):=by
 have hU:=yw hG hl;have KN:Hid (∀W,Below w.heap.size w W→Calls Tryz.prog 42 #[vcl] W (Post W fun _ q=>q=.int .i64 (mN cl:Nat))):=zhd fun W hW=>by
  have:=xf (h3.ext hW) hG;rw[zfT]at this;exact this
 have KS:Hid (∀c,c<mN cl→∀W,Below w.heap.size w W→Calls Tryz.prog 75 #[v,vcl,.agg #[r,f,t],c] W (Post W fun _ q=>q=.bool (sndB s.tab cl r f c))):=zhd fun c hc W hW=>Qk (h.ext hW) hg (h3.ext hW) hm hU hc;have KE:Hid (∀c d,c<mN cl→d<mN cl→∀W,Below w.heap.size w W→Calls Tryz.prog 76 #[v,vcl,.agg #[r,f,t],c,d] W (Post W fun _ q=>q=.bool (eqC s.tab cl t c d))):=zhd fun c d hc hd W hW=>Qu (h.ext hW) hg (h3.ext hW) hm hU hc hd;have hT:=hg.tab;have hnd:=hg.nodup;have hmm:mN cl≤60000:=by have:=zbe hG;omega
 have HNB:Hid (∀k,k≤mN cl→manyN s.tab cl r f t k≤k):=zhd (yD hT hnd hU);have HWF:Hid (∀k,k≤mN cl→∀x∈symL s.tab cl r f t k,WF x):=zhd (zfR hT hnd hU hmm);have HNO:Hid (∀c,sndB s.tab cl r f c=false→manyN s.tab cl r f t (c+1)=manyN s.tab cl r f t c∧symV s.tab cl r f t c= -1):=zhd fun c hs=>⟨ZF hs,(Zy (t:=t) hs).2⟩;have HSY:Hid (∀c,c<mN cl→sndB s.tab cl r f c=true→∀j,j<c→0≤symV s.tab cl r f t j→eqC s.tab cl t c j=true→SymI s.tab cl r f t c (j+1) (symV s.tab cl r f t j)):=zhd fun c hc hs j hj h0 he=>SymI.yes hT hnd hU hc hj hs h0 he;have HSD:Hid (∀c,c<mN cl→sndB s.tab cl r f c=true→SymI s.tab cl r f t c c (-1)→symV s.tab cl r f t c=(manyN s.tab cl r f t c:Int)∧manyN s.tab cl r f t (c+1)=manyN s.tab cl r f t c+1):=zhd fun c hc hs hi=>SymI.done hT hnd hU hc hs hi;have HSB:Hid (∀c,c<mN cl→ -1≤symV s.tab cl r f t c∧symV s.tab cl r f t c≤60000):=zhd fun c hc=>by
  have h1:=qg (r:=r) (f:=f) (t:=t) hT hnd hU hc;have h2:=yD (r:=r) (f:=f) (t:=t) hT hnd hU (mN cl) (Nat.le_refl _);omega
 have HZ:Hid (manyN s.tab cl r f t 0=0):=zhd Zs;obtain ⟨ca,cc,sa,sc,ta,tc,xa,xc,rfl,hc,hs,ht,hx⟩:=h.zf;obtain ⟨a3,c3,rfl,_⟩:=h3.form;obtain ⟨ex,R0,R1⟩:=zb2 w [s.p.n,s.p.ins,s.p.outs,.slice ca s.p.cs.length cc,s.p.an,.slice sa s.p.st.length sc,s.p.rounds,s.tn,.slice ta s.tab.length tc,.slice xa s.ex.length xc] [r,f,t] 35 72;have HO0:Hid (((w.alloc (.cells #[s.p.n,s.p.ins,s.p.outs,.slice ca s.p.cs.length cc,s.p.an,.slice sa s.p.st.length sc,s.p.rounds,s.tn,.slice ta s.tab.length tc,.slice xa s.ex.length xc] 35)).alloc (.cells #[r,f,t] 72)).ownsRow w.heap.size 3 1 (.slice none 0 0) 0 ((symL s.tab cl r f t 0).map (Value.int .i64))):=zhd (World.ownsRow_nil _ _ _ _);have HOB0:Hid (∀k',(Value.slice none 0 0).ownBlock=some k'→w.heap.size+2≤k'):=zhd fun k' hk'=>by simp[Value.ownBlock]at hk'
 obtain ⟨m,hmx⟩:=zn (mN cl);rw[←hmx]at KN KS KE HNB HWF HSY HSD HSB hmm ⊢;clear hc hs ht hx h3 hg hm hG hl hU hT hnd hmx;go_enter Tryz.func66,Tryz.ntmps66;go_wp2;go_loopw [7,8,9,10,11] (fun ov nv lv _ _ wr=>∃(k nx oc:Nat) (oa:Option Addr),k≤m∧ov=.slice oa k oc∧nv=.int .i64 nx∧lv=.int .i64 k∧Hid (nx=manyN s.tab cl r f t k)∧Below w.heap.size w wr∧Row wr w.heap.size 35 [s.p.n,s.p.ins,s.p.outs,.slice ca s.p.cs.length cc,s.p.an,.slice sa s.p.st.length sc,s.p.rounds,s.tn,.slice ta s.tab.length tc,.slice xa s.ex.length xc]∧Row wr (w.heap.size+1) 72 [r,f,t]∧Hid (wr.ownsRow w.heap.size 3 1 (.slice oa k oc) k ((symL s.tab cl r f t k).map (Value.int .i64)))∧Hid (∀k',(Value.slice oa k oc).ownBlock=some k'→w.heap.size+2≤k')) (fun _ _ lv _ _ _=>m - (intOf lv).toNat)
 case atStart=>exact ⟨0,0,0,none,Nat.zero_le _,rfl,rfl,rfl,zhd HZ.out.symm,ex,R0,R1,HO0,HOB0⟩
 case round=>
  clear ex R0 R1 HO0 HOB0;obtain ⟨k,nx,oc,oa,hk,rfl,rfl,rfl,HNX,ex,R0,R1,HO,HOB⟩:=hrel;obtain ⟨t0,t1,t2,t3,t4,t5,t6,t7,t8,t9⟩:=R0.ten;have l0:=R0.lt;have p0:=R1.zc 0 rfl;have p1:=R1.zc 1 rfl;have p2:=R1.zc 2 rfl;have l1:=R1.lt;go_wp2_with fail;refine (KN.out _ ex).mono ?_;rintro _ w1 ⟨_,rfl,hb,rfl⟩;replace R0:=R0.ext hb;replace R1:=R1.ext hb;replace ex:=za ex hb;replace HO:=zhd (zS HO.out hb);clear hb t0 t1 t2 t3 t4 t5 t6 t7 t8 t9 l0 p0 p1 p2 l1;by_cases hlt:k<m
  case neg=>
   obtain rfl:k=m:=by omega
   have HI:Hid (Ints (fun b=>w.heap.size≤b) w1 (.slice oa k oc) (symL s.tab cl r f t k)):=zhd (Zv (yB ..) HO.out (HWF.out k (Nat.le_refl _)));clear HO HOB R0 R1;go_wp2;go_ret;exact .mk ex HI.out
  have hnx:nx≤60000:=by have:=HNB.out k hk;have:=HNX.out;omega
  have hsz:w.heap.size≤w1.heap.size:=ex.size;have HSX:Hid (symL s.tab cl r f t (k+1)=symL s.tab cl r f t k++[symV s.tab cl r f t k]):=zhd (zdt ..);have KS1:=zhd (KS.out k hlt);have HNO1:=zhd (HNO.out k);have HSY1:=zhd (HSY.out k hlt);have HSD1:=zhd (HSD.out k hlt);obtain ⟨b,hb⟩:=zn (sndB s.tab cl r f k);rw[←hb]at KS1 HNO1 HSY1 HSD1;clear hb;obtain ⟨t0,t1,t2,t3,t4,t5,t6,t7,t8,t9⟩:=R0.ten;have l0:=R0.lt;have p0:=R1.zc 0 rfl;have p1:=R1.zc 1 rfl;have p2:=R1.zc 2 rfl;have l1:=R1.lt;go_wp2_with fail;refine (KS1.out _ ex).mono ?_;rintro _ w2 ⟨_,rfl,hb,rfl⟩;replace R0:=R0.ext hb;replace R1:=R1.ext hb;replace ex:=za ex hb;replace HO:=zhd (zS HO.out hb);replace hsz:w.heap.size≤w2.heap.size:=ex.size;clear hb t0 t1 t2 t3 t4 t5 t6 t7 t8 t9 l0 p0 p1 p2 l1 KS1;cases b with
  | false=>
   have HN2:Hid (nx=manyN s.tab cl r f t (k+1)):=zhd (by rw[(HNO1.out rfl).1];exact HNX.out);rw[(HNO1.out rfl).2]at HSX;clear HNO1 HSY1 HSD1 HNX;go_wp2_with (at_builtin;refine zU rfl (.tmp 54) (.tmp 56) 36 rfl 3 _ 8 Tryz.underlying36 zD rfl w.heap.size (.slice oa k oc) _ _ rfl HO.out (.int .i64 (-1)) rfl rfl (by omega) (by omega) hsz ?_;intro g5 c5 w5 hown5 hbel5 hag5 hat5);have HO5:Hid (w5.ownsRow w.heap.size 3 1 (.slice (some ⟨g5,0,none⟩) (k+1) c5) (k+1) ((symL s.tab cl r f t (k+1)).map (Value.int .i64))):=zhd (by
    rw[HSX.out];simpa using hown5)
   have hb5:=ex.trans hbel5;have R05:=R0.agree (hag5 (fun b=>b<w.heap.size+2) (fun k' hk' e=>by have:=HOB.out k' hk';omega)) (by omega);have R15:=R1.agree (hag5 (fun b=>b<w.heap.size+2) (fun k' hk' e=>by have:=HOB.out k' hk';omega)) (by omega);have HOB5:Hid (∀k',(Value.slice (some ⟨g5,0,none⟩) (k+1) c5).ownBlock=some k'→w.heap.size+2≤k'):=zhd fun k' hk'=>by
    have e:g5=k':=by simpa[Value.ownBlock] using hk'
    rcases hat5 with h1 | h1
    ·exact HOB.out k' (by rw[h1,e])
    ·have:=R1.lt;omega
   clear hown5 hbel5 hag5 hat5 ex HO R0 R1 HOB;go_wp2;go_roundw
   case rel=>exact ⟨k+1,nx,c5,_,by omega,rfl,rfl,by go_num,HN2,hb5,R05,R15,HO5,HOB5⟩
   case measure=>simp[intOf];omega
  | true=>
  have HSY2:=zhd (HSY1.out rfl);have HSD2:=zhd (HSD1.out rfl);clear HNO1 HSY1 HSD1;have H00:Hid (SymI s.tab cl r f t k 0 (-1)):=zhd (SymI.zero k);have HEX2:=zhd ex;have HR02:=zhd R0;have HR12:=zhd R1;have HI2:Hid (Ints (fun b=>w.heap.size≤b) w2 (.slice oa k oc) (symL s.tab cl r f t k)):=zhd (Zv (yB ..) HO.out (HWF.out k (by omega)));have y2:=Below.refl w2.heap.size w2;go_wp2;go_loopw [10,11] (fun sv jv wr=>∃(j:Nat) (y:Int),j≤k∧sv=.int .i64 y∧jv=.int .i64 j∧ -1≤y∧y≤60000∧Hid (SymI s.tab cl r f t k j y)∧Below w2.heap.size w2 wr) (fun _ jv _=>k - (intOf jv).toNat)
  case atStart=>exact ⟨0, -1,Nat.zero_le _,rfl,rfl,by omega,by omega,H00,y2⟩
  case round=>
   clear y2 R0 R1 ex hsz;obtain ⟨j,y,hj,rfl,rfl,hy1,hy2,HSI,y2⟩:=hrel;replace HO:=zhd (zS HO.out y2);have ex:=za HEX2.out y2;have R0:=HR02.out.ext y2;have R1:=HR12.out.ext y2;have hsz:w.heap.size≤wr.heap.size:=ex.size;by_cases hy:y<0
   case neg=>
    have dy:decide (y<0)=false:=decide_eq_false hy;have HF:=zhd (HSI.out.found (by omega));have HN2:Hid (nx=manyN s.tab cl r f t (k+1)):=zhd (by rw[HF.out.2];exact HNX.out);rw[←HF.out.1]at HSX;clear HF HSI HNX hy y2;by_cases hjk:j<k;all_goals
     go_wp2_with (at_builtin;refine zU rfl (.tmp 54) (.tmp 56) 36 rfl 3 _ 8 Tryz.underlying36 zD rfl w.heap.size (.slice oa k oc) _ _ rfl HO.out (.int .i64 y) rfl rfl (by omega) (by omega) hsz ?_;intro g5 c5 w5 hown5 hbel5 hag5 hat5);have HO5:Hid (w5.ownsRow w.heap.size 3 1 (.slice (some ⟨g5,0,none⟩) (k+1) c5) (k+1) ((symL s.tab cl r f t (k+1)).map (Value.int .i64))):=zhd (by
      rw[HSX.out];simpa using hown5)
     have hb5:=ex.trans hbel5;have R05:=R0.agree (hag5 (fun b=>b<w.heap.size+2) (fun k' hk' e=>by have:=HOB.out k' hk';omega)) (by omega);have R15:=R1.agree (hag5 (fun b=>b<w.heap.size+2) (fun k' hk' e=>by have:=HOB.out k' hk';omega)) (by omega);have HOB5:Hid (∀k',(Value.slice (some ⟨g5,0,none⟩) (k+1) c5).ownBlock=some k'→w.heap.size+2≤k'):=zhd fun k' hk'=>by
      have e:g5=k':=by simpa[Value.ownBlock] using hk'
      rcases hat5 with h1 | h1
      ·exact HOB.out k' (by rw[h1,e])
      ·have:=R1.lt;omega
     clear hown5 hbel5 hag5 hat5 ex HO R0 R1 HOB;go_wp2;go_roundw
     case rel=>exact ⟨k+1,nx,c5,_,by omega,rfl,rfl,by go_num,HN2,hb5,R05,R15,HO5,HOB5⟩
     case measure=>simp[intOf];omega
   obtain rfl:y= -1:=by omega
   by_cases hjk:j<k
   case neg=>
    obtain rfl:j=k:=by omega
    have HF:=zhd (HSD2.out HSI.out);have HN2:Hid (nx+1=manyN s.tab cl r f t (j+1)):=zhd (by rw[HF.out.2,←HNX.out]);rw[HF.out.1,←HNX.out]at HSX;have hw1:=zaf (n:=nx) (by omega);clear HF HSI HNX hy y2;go_wp2_with (at_builtin;refine zU rfl (.tmp 54) (.tmp 56) 36 rfl 3 _ 8 Tryz.underlying36 zD rfl w.heap.size (.slice oa j oc) _ _ rfl HO.out (.int .i64 nx) rfl rfl (by omega) (by omega) hsz ?_;intro g5 c5 w5 hown5 hbel5 hag5 hat5);have HO5:Hid (w5.ownsRow w.heap.size 3 1 (.slice (some ⟨g5,0,none⟩) (j+1) c5) (j+1) ((symL s.tab cl r f t (j+1)).map (Value.int .i64))):=zhd (by
     rw[HSX.out];simpa using hown5)
    have hb5:=ex.trans hbel5;have R05:=R0.agree (hag5 (fun b=>b<w.heap.size+2) (fun k' hk' e=>by have:=HOB.out k' hk';omega)) (by omega);have R15:=R1.agree (hag5 (fun b=>b<w.heap.size+2) (fun k' hk' e=>by have:=HOB.out k' hk';omega)) (by omega);have HOB5:Hid (∀k',(Value.slice (some ⟨g5,0,none⟩) (j+1) c5).ownBlock=some k'→w.heap.size+2≤k'):=zhd fun k' hk'=>by
     have e:g5=k':=by simpa[Value.ownBlock] using hk'
     rcases hat5 with h1 | h1
     ·exact HOB.out k' (by rw[h1,e])
     ·have:=R1.lt;omega
    clear hown5 hbel5 hag5 hat5 ex HO R0 R1 HOB;go_wp2;go_roundw
    case rel=>exact ⟨j+1,nx+1,c5,_,by omega,rfl,(by go_num),by go_num,HN2,hb5,R05,R15,HO5,HOB5⟩
    case measure=>simp[intOf];omega
   have qj:=(HI2.out.ext y2).idx (k:=j) (by rw[yB];exact hjk);have cj:=(HI2.out.ext y2).cellN (k:=j) (by rw[yB];exact hjk);rw[zeA _ _ _ _ _ hjk]at cj;have bj:=World.block_lt_of_cell? _ _ cj;have HBj:=HSB.out j (by omega);have KE1:=zhd (KE.out k j hlt (by omega));have HSY3:=zhd (HSY2.out j hjk);have HSK:=zhd (fun h=>HSI.out.skip (j:=j) h);have HSN:=zhd (fun h=>HSI.out.no (j:=j) h);obtain ⟨z,hz⟩:=zn (symV s.tab cl r f t j);obtain ⟨e,he⟩:=zn (eqC s.tab cl t k j);rw[←hz]at cj HBj HSY3 HSK;rw[←he]at KE1 HSY3 HSN;clear hz he HSI;by_cases hz0:0≤z
   case neg=>
    have dz:decide (0≤z)=false:=decide_eq_false hz0;have HS2:=zhd (HSK.out (by omega));clear HSK HSN HSY3 KE1 hz0 hy;go_wp2;go_roundw
    case rel=>exact ⟨j+1, -1,by omega,rfl,by go_num,by omega,by omega,HS2,y2⟩
    case measure=>simp[intOf];omega
   have dz:decide (0≤z)=true:=decide_eq_true hz0;obtain ⟨t0,t1,t2,t3,t4,t5,t6,t7,t8,t9⟩:=R0.ten;have l0:=R0.lt;have p0:=R1.zc 0 rfl;have p1:=R1.zc 1 rfl;have p2:=R1.zc 2 rfl;have l1:=R1.lt;go_wp2_with fail;refine (KE1.out _ ex).mono ?_;rintro _ w4 ⟨_,rfl,hb4,rfl⟩;have y4:=za y2 hb4;replace HSY3:=zhd (HSY3.out hz0);replace cj:=zi cj hb4;replace bj:=World.block_lt_of_cell? _ _ cj;clear t0 t1 t2 t3 t4 t5 t6 t7 t8 t9 l0 p0 p1 p2 l1 HSK KE1 hb4 y2 hy hz0;cases e with
   | false=>
    have HS2:=zhd (HSN.out rfl);go_wp2;go_roundw
    case rel=>exact ⟨j+1, -1,by omega,rfl,by go_num,by omega,by omega,HS2,y4⟩
    case measure=>simp[intOf];omega
   | true=>
    have HS2:=zhd (HSY3.out rfl);go_wp2;go_roundw
    case rel=>exact ⟨j+1,z,by omega,rfl,by go_num,by omega,by omega,HS2,y4⟩
    case measure=>simp[intOf];omega
end Go.Proofs.YtiabbjolepnjkaaGreat
