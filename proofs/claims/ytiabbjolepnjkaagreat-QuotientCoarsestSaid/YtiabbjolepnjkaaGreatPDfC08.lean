/- Part of the proof that the laws answer true for every input. -/
import Derived.Test.YtiabbjolepnjkaaGreatPDfC05
import Derived.Test.YtiabbjolepnjkaaGreatPDfC06
set_option linter.unusedSimpArgs false
set_option linter.unnecessarySimpa false
set_option linter.unusedVariables false
set_option maxRecDepth 100000
set_option maxHeartbeats 40000000
namespace Go.Proofs.YtiabbjolepnjkaaGreat
open Go.RowKit
attribute [local go_sem ↓] Go.wp_at_zero Go.wp_at_succ
theorem zfi {S:Nat→Prop} {w:World} {a:Option Addr} {cap:Nat} {l:List Int} (h:Ints S w (.slice a l.length cap) l) (h1:0<l.length):
  ∃a' cap',(∀W:World,(Instr.slice 36 (.slice a l.length cap) (some (.int .i64 1)) none none).run Tryz.prog W=.ok (.slice a' (l.length - 1) cap') W)∧Ints S w (.slice a' (l.length - 1) cap') (l.drop 1):=by
 obtain ⟨i,hi,hz,h2,hz3⟩:=info_parts zI;obtain ⟨a0,cap0,e,had,hl,hm,hc,hf⟩:=h;simp only[Value.slice.injEq,true_and]at e;obtain ⟨rfl,rfl⟩:=e;have hE:Tryz.prog.elem 36=3:=by simp[Program.elem,Tryz.underlying36]
 rcases had with ⟨h0,_⟩ | ⟨b,off,rfl,hb,hs⟩
 ·omega
 refine ⟨if l.length=1∧cap=1 then some ⟨b,off,none⟩ else if cap=1 then some ⟨b,off,none⟩ else some ⟨b,off+1,none⟩,cap - 1,fun W=>?_,?_⟩
 ·rw[run_slice_l (w:=W) 36 _ _ _ (by rw[hE];exact Tryz.underlying36) .i64 1 (by omega) (by omega),hE];by_cases e:cap=1<;>simp[sizeOf,typeInfo,hi,h2,Result.andThen,sliced,Addr.add,e]
 ·have hd:(l.drop 1).length=l.length - 1:=by simp
  refine ⟨_,_,by rw[hd],?_,by omega,by omega,fun j hj=>?_,fun y hy=>hf y (List.mem_of_mem_drop hy)⟩
  ·by_cases e:cap=1
   ·rw[if_pos e,ite_self];exact .inr ⟨b,off,rfl,hb,hs⟩
   ·rw[if_neg e,if_neg (fun h=>e h.2)];exact .inr ⟨b,off+1,rfl,hb,hs⟩
  ·rw[hd]at hj;rw[if_neg (fun h=>by omega),if_neg (by omega)];have:=hc (j+1) (by omega);rw[yi]at this;rw[yi,show off+1+j=off+(j+1) by omega,this];cases l with
   | nil=>simp at h1
   | cons a l=>simp[nth]
theorem zga {T:List (List Int)} {ch:List Int} {x:Nat} {o:Int} {l:List Int} {k:Nat} (h:l.length≤k):outP T ch x o (l.drop k)=endB ch x o:=by
 rw[List.drop_eq_nil_of_le h];rfl
theorem Zu {S S3:Nat→Prop} {w:World} {v vch vl:Value} {s:SysF} {ch l:List Int} (u' x':Int) (h:SysV S w v s) (hf:PFew s.p) (h2:Ints S w vch ch) (h3:Ints S3 w vl l) (hm:s.tab.length≤120):
  Calls Tryz.prog 23 #[v,.agg #[vch],u',x',vl] w (Post w fun _ r=>r=.int .i64 (aprE s ch u' x' l)):=by
 have KP:Hid (∀W,Below w.heap.size w W→Calls Tryz.prog 52 #[v,.agg #[vch],u',x'] W (Post W (PairR W.heap.size S s ch u' x'))):=zhd fun W hW=>QQ u' x' (h.ext hW) hf (h2.ext hW) hm;have HQ:=zhd (zgY s ch u' x' l);have HI:Hid (∀k,inE s.tab.length l k=if nth l k<0∨(s.tab.length:Int)≤nth l k then 6 else 0):=zhd fun k=>rfl;have HG:Hid (pairE s ch u' x'=0→∃u x:Nat,u'=u∧x'=x∧u<s.tab.length∧x<s.tab.length∧TabOK s.N s.K s.tab):=zhd fun h0=>by
  obtain ⟨hr0,hu1,hu2,hx1,hx2,_,_⟩:=YD h0;exact ⟨u'.toNat,x'.toNat,by omega,by omega,by omega,by omega,(yj h hr0).1.tab⟩
 obtain ⟨r,hr⟩:=zn (aprE s ch u' x' l);rw[←hr]at HQ ⊢;obtain ⟨ca,cc,sa,sc,ta,tc,xa,xc,rfl,hc,hs,ht,hx⟩:=h.zf;obtain ⟨_,_,hee2,tad,_⟩:=ht.form2;cases hee2;obtain ⟨i0,hi,hz⟩:=zK zO;have HQV:=zhd (zM Tryz.underlying30 hi hz tad);have HTV:=zhd ht;obtain ⟨a2,c2,rfl,_⟩:=h2.form;obtain ⟨a3,c3,rfl,_⟩:=h3.form;have HQI:Hid (∀k,k<l.length→∀W:World,(Instr.indexAt 36 (.slice a3 l.length c3) (.int .i64 k)).run Tryz.prog W=.ok (.pointer (some (adr a3 k))) W):=zhd fun k hk W=>h3.idx hk W;have HC:Hid (∀k,k<l.length→w.cell? (adr a3 k)=some (.int .i64 (nth l k))):=zhd fun k hk=>h3.cellN hk;have HTL:Hid (0<l.length→∃a' c',(∀W:World,(Instr.slice 36 (.slice a3 l.length c3) (some (.int .i64 1)) none none).run Tryz.prog W=.ok (.slice a' (l.length - 1) c') W)∧Ints S3 w (.slice a' (l.length - 1) c') (l.drop 1)):=zhd fun h0=>zfi h3 h0;obtain ⟨ex,R0,R1⟩:=zb2 w [s.p.n,s.p.ins,s.p.outs,.slice ca s.p.cs.length cc,s.p.an,.slice sa s.p.st.length sc,s.p.rounds,s.tn,.slice ta s.tab.length tc,.slice xa s.ex.length xc] [.slice a2 ch.length c2] 35 38;clear hc hs ht hx h2 h3 hr hf hi hz tad;go_enter Tryz.func23,Tryz.ntmps23;obtain ⟨t0,t1,t2,t3,t4,t5,t6,t7,t8,t9⟩:=R0.ten;have l0:=R0.lt;have r0:=R1.zc 0 rfl;have l1:=R1.lt;go_wp2_with fail;refine (KP.out _ ex).mono ?_;rintro _ w1 ⟨_,rfl,hb,hO⟩;replace R0:=R0.ext hb;replace R1:=R1.ext hb;replace ex:=za ex hb;clear hb KP t0 t1 t2 t3 t4 t5 t6 t7 t8 t9 l0 r0 l1;rcases hO with ⟨h0,g,rfl,hSc⟩ | ⟨h0,rfl⟩
 case inr=>
  have RE:=zhd (HQ.out.trans (if_neg h0));obtain ⟨e,hee⟩:=zn (pairE s ch u' x');rw[←hee]at RE h0 ⊢;have d0:(e !=0)=true:=by simp[h0]
  clear h0 HQ HG hee HTV HQV HTL;go_wp2;go_ret;exact .mk ex (zr RE.out.symm)
 have HQ1:=zhd (HQ.out.trans (if_pos h0));obtain ⟨u,x,rfl,rfl,hu,hx,htb⟩:=HG.out h0;rw[Int.toNat_natCast,Int.toNat_natCast]at HQ1;have HTB:=zhd htb;have HSc:Hid (∃Am,ScnV Am w1 g s ch):=zhd ⟨_,hSc⟩;have d0:((0:Int) !=0)=false:=rfl;obtain ⟨A,hA⟩:=zn (aprB s.tab ch u x l);rw[←hA]at HQ1;clear h0 HQ HG htb hSc R1;by_cases h1:l.length=0
 ·have RE:=zhd (HQ1.out.trans (if_pos h1));have d1:((l.length:Int)==0)=true:=by simp[h1]
  clear h1 HQ1 HTV HQV HTL hA;go_wp2;go_ret;exact .mk ex (zr RE.out.symm)
 have HQ2:=zhd (HQ1.out.trans (if_neg h1));have d1:((l.length:Int)==0)=false:=by rw[beq_eq_false_iff_ne];omega
 clear HQ1;by_cases h7:7<l.length
 ·have RE:=zhd (HQ2.out.trans (if_pos h7));have d2:decide ((7:Int)<(l.length:Int))=true:=decide_eq_true (by omega);have d2':decide (7<l.length)=true:=decide_eq_true h7;clear h1 h7 HQ2 HTV HQV HTL hA;go_wp2;go_ret;exact .mk ex (zr RE.out.symm)
 have HQ3:=zhd (HQ2.out.trans (if_neg h7));have d2:decide ((7:Int)<(l.length:Int))=false:=decide_eq_false (by omega);have d2':decide (7<l.length)=false:=decide_eq_false h7;have hl7:l.length≤7:=by omega
 have hl0:0<l.length:=by omega
 clear HQ2 h1 h7;obtain ⟨a4,c4,qs,ht4⟩:=HTL.out hl0;have hdl:(l.drop 1).length=l.length - 1:=by simp
 have HQT:Hid (∀k,k<l.length - 1→∀W:World,(Instr.indexAt 36 (.slice a4 (l.length - 1) c4) (.int .i64 k)).run Tryz.prog W=.ok (.pointer (some (adr a4 k))) W):=zhd fun k hk W=>by
  have:=ht4.idx (k:=k) (by rw[hdl];exact hk) W;exact this
 have HCT:Hid (∀k,k<l.length - 1→w.cell? (adr a4 k)=some (.int .i64 (nth l (k+1)))):=zhd fun k hk=>by
  have:=ht4.cellN (k:=k) (by rw[hdl];exact hk);rw[this];simp[nth,Nat.add_comm]
 obtain ⟨n1,hn1⟩:∃n,n=l.length - 1:=⟨_,rfl⟩;have HN1:Hid (l.length=n1+1):=zhd (by omega);have hn7:n1≤6:=by omega
 rw[←hn1]at HQT HCT qs;have HA:=zhd hA;clear hn1 HTL ht4 hdl hA;go_wp2;clear d0 d1 d2 d2';go_loopw [14,41] (fun _ i wr=>∃k:Nat,k≤l.length∧i=.int .i64 k∧Hid (Zeros (inE s.tab.length l) k)∧Below w.heap.size w wr∧Row wr w.heap.size 35 [s.p.n,s.p.ins,s.p.outs,.slice ca s.p.cs.length cc,s.p.an,.slice sa s.p.st.length sc,s.p.rounds,s.tn,.slice ta s.tab.length tc,.slice xa s.ex.length xc]∧Hid (∃Am,ScnV Am wr g s ch)) (fun _ i _=>l.length - (intOf i).toNat)
 case atStart=>exact ⟨0,Nat.zero_le _,rfl,zhd (Zeros.zero _),ex,R0,HSc⟩
 case round=>
  clear ex R0 HSc;obtain ⟨k,hk,rfl,HZ,ex,R0,HSc⟩:=hrel;by_cases hlt:k<l.length
  case neg=>
   obtain rfl:k=l.length:=by omega
   have HQ4:=zhd (HQ3.out.trans (if_pos (HZ.out.done (Nat.le_refl _))));have hrg:=zik HZ.out;have HRG:=zhd hrg;obtain ⟨z0,hz0,hz0n⟩:=hrg 0 hl0;have q0:∀W:World,(Instr.indexAt 36 (.slice a3 l.length c3) (.int .i64 0)).run Tryz.prog W=.ok (.pointer (some (adr a3 0))) W:=HQI.out 0 hl0;have c0:=HC.out 0 hl0;rw[hz0]at c0;replace c0:=zm c0 ex;have b0:=World.block_lt_of_cell? _ _ c0;have hd0:l=(z0:Int)::l.drop 1:=by have:=Z2 hl0;rw[List.drop_zero,hz0]at this;exact this
   have HA2:Hid (A=if (z0:Int)=(x:Int) then outP s.tab ch x u (l.drop 1) else if (z0:Int)=(u:Int) then outP s.tab ch u x (l.drop 1) else false):=zhd (by
    have e:aprB s.tab ch u x ((z0:Int)::l.drop 1)=(if (z0:Int)=(x:Int) then outP s.tab ch x u (l.drop 1) else if (z0:Int)=(u:Int) then outP s.tab ch u x (l.drop 1) else false):=rfl;rw[←hd0]at e;rw[HA.out];exact e)
   clear HQ3 hlt HZ hd0 hrg HI HA hk;by_cases he:z0=x
   ·have d1:((z0:Int)==(x:Int))=true:=by rw[he];simp
    have HA0:Hid (A=outP s.tab ch z0 u (l.drop (0+1))):=zhd (by rw[he];exact HA2.out.trans (if_pos (by rw[he])));clear HA2 he;go_wp2;clear q0 c0 b0 d1;go_loopw [15,16,17,18,70] (fun ov _ _ _ iv wr=>∃(j z:Nat) (o:Int),j+1≤l.length∧iv=.int .i64 j∧ov=.int .i64 o∧(-1≤o∧o<s.tab.length)∧(nth l j=(z:Int)∧z<s.tab.length)∧Hid (A=outP s.tab ch z o (l.drop (j+1)))∧Below w.heap.size w wr∧Row wr w.heap.size 35 [s.p.n,s.p.ins,s.p.outs,.slice ca s.p.cs.length cc,s.p.an,.slice sa s.p.st.length sc,s.p.rounds,s.tn,.slice ta s.tab.length tc,.slice xa s.ex.length xc]∧Hid (∃Am,ScnV Am wr g s ch)) (fun _ _ _ _ iv _=>l.length - (intOf iv).toNat)
    case atStart=>exact ⟨0,z0,u,by omega,rfl,rfl,⟨by omega,by omega⟩,⟨hz0,hz0n⟩,HA0,ex,R0,HSc⟩
    case round=>
     clear ex R0 HSc HA0;obtain ⟨j,z,o,hj,rfl,rfl,ho,⟨hz,hzn⟩,HO,ex,R0,HSc⟩:=hrel;obtain ⟨Am,hAm⟩:=HSc.out;have qj:=HQI.out j (by omega);have cj:=HC.out j (by omega);rw[hz]at cj;by_cases hlt:j<n1
     case neg=>
      have hml:j+1=l.length:=by have:=HN1.out;omega
      have DW:IntKind.i64.wrap ((l.length:Int) - 1)=(j:Int):=by rw[IntWalk.i64_left,IntWalk.wrap64_in _ (by omega)];omega
      have HO2:Hid (A=endB ch z o):=zhd (by rw[HO.out,zga (by omega)]);replace cj:=zm cj ex;have bj:=World.block_lt_of_cell? _ _ cj;have KE:=zhd (fun W (hW:Below wr.heap.size wr W)=>ZO (hAm.ext hW) hzn ho.2);have l0:=R0.lt;obtain ⟨b,hb⟩:=zn (endB ch z o);rw[←hb]at KE HO2;clear HO hz hml hb hAm HSc;go_wp2_with fail;refine (KE.out _ (.refl _ _)).mono ?_;rintro _ w9 ⟨_,rfl,hb9,rfl⟩;replace ex:=za ex hb9;clear hb9 KE R0 l0 cj bj;cases b with
      | true=>
       have RE:Hid (r=0):=zhd (HQ4.out.trans (if_pos HO2.out));go_wp2;go_ret;exact .mk ex (zr RE.out.symm)
      | false=>
       have RE:Hid (r=18):=zhd (HQ4.out.trans (if_neg (by rw[HO2.out];decide)));go_wp2;go_ret;exact .mk ex (zr RE.out.symm)
     obtain ⟨y,hy,hyn⟩:=HRG.out (j+1) (by have:=HN1.out;omega);have qt:=HQT.out j hlt;have ct:=HCT.out j hlt;rw[hy]at ct;replace ct:=zm ct ex;replace cj:=zm cj ex;have bt:=World.block_lt_of_cell? _ _ ct;have bj:=World.block_lt_of_cell? _ _ cj;have HO2:Hid (A=(decide (0≤o)&&(hrsB s.tab y z&&outP s.tab ch y (repT s.tab y z o) (l.drop (j+1+1))))):=zhd (by rw[HO.out,ziE (by have:=HN1.out;omega) hy]);have HY:=zhd hy;have t8:=R0.zc 8 rfl;have l0:=R0.lt;have yb:=fun n=>za ex (zb wr.heap.size wr n);have y0:=fun n=>R0.ext (zb wr.heap.size wr n);have ys:=fun n=>zhd (hAm.ext (zb wr.heap.size wr n));by_cases ho0:o<0
     ·have d1:decide (o<0)=true:=decide_eq_true ho0;have HA1:Hid (A=false):=zhd (by rw[HO2.out,decide_eq_false (by omega),Bool.false_and]);have RE:Hid (r=18):=zhd (HQ4.out.trans (if_neg (by rw[HA1.out];decide)));clear ho HO HO2 hz hy hAm HSc ys y0 R0 ex;go_wp2;go_quiet (fail);go_wp2;go_ret;exact .mk (yb _) (zr RE.out.symm)
     have d1:decide (o<0)=false:=decide_eq_false ho0;have HO3:Hid (A=(hrsB s.tab y z&&outP s.tab ch y (repT s.tab y z o) (l.drop (j+1+1)))):=zhd (by rw[HO2.out,decide_eq_true (show 0≤o by omega),Bool.true_and]);have HRL:=zhd (ZR (T:=s.tab) (u:=y) (w:=z) (b:=o));have HWO:Hid (WF o):=zhd (WF.small (by omega));have hTV:=HTV.out.ext ex;have zq:=HQV.out z hzn;have yq:=HQV.out y hyn;obtain ⟨e0,p5,_⟩:=yO HTB.out hzn;obtain ⟨cz,_⟩:=hTV.nums (k:=z) hzn (by decide);obtain ⟨cy0,cyr⟩:=hTV.nums (k:=y) hyn (by decide);have cy:=cyr (3+prcT s.tab z) (by omega);rw[e0]at cz;have HH:Hid (hrsB s.tab y z=decide (nth (nthL s.tab y) (3+prcT s.tab z)=(z:Int))):=zhd rfl;obtain ⟨hv,hhv⟩:=zn (nth (nthL s.tab y) (3+prcT s.tab z));rw[←hhv]at cy HH;obtain ⟨pz,hpz⟩:=zn (prcT s.tab z);rw[←hpz]at cz cy p5;have xi:=qU (adr ta (y * 8)).block ((adr ta (y * 8)).off+3) p5;rw[←Nat.add_assoc]at cy;have bz:=World.block_lt_of_cell? _ _ cz;have by0:=World.block_lt_of_cell? _ _ cy0;clear HO HO2 hz hy cyr cy0 hhv hpz e0 hTV R0 ex hAm HSc;by_cases hh:hv=(z:Int)
     case neg=>
      have d2:(hv !=(z:Int))=true:=by simp[hh]
      have HA1:Hid (A=false):=zhd (by rw[HO3.out,HH.out,decide_eq_false hh,Bool.false_and]);have RE:Hid (r=18):=zhd (HQ4.out.trans (if_neg (by rw[HA1.out];decide)));clear ho HO3 HH hh;go_wp2;go_quiet (fail);go_wp2;go_ret;exact .mk (yb _) (zr RE.out.symm)
     have d2:(hv !=(z:Int))=false:=by simp[hh]
     have HO4:Hid (A=outP s.tab ch y (repT s.tab y z o) (l.drop (j+1+1))):=zhd (by rw[HO3.out,HH.out,decide_eq_true hh,Bool.true_and]);have KR:=zhd (fun n W (hW:Below (wr.drewN n).heap.size (wr.drewN n) W)=>YM (b:=o) ((ys n).out.ext hW) hyn hzn HWO.out);obtain ⟨o2,ho2⟩:=zn (repT s.tab y z o);rw[←ho2]at KR HO4 HRL;have HYN:=zhd hyn;clear ho HO3 HH hh ho2;go_wp2;go_quiet (fail);clear cy cz bz by0 xi zq yq d1 d2 qt ct bt qj cj bj t8 l0;go_wp2_with fail;refine (KR.out _ _ (.refl _ _)).mono ?_;rintro _ w9 ⟨_,rfl,hb9,rfl⟩;have ex:=za (yb _) hb9;have R0:=(y0 _).ext hb9;have HSc:Hid (∃Am,ScnV Am w9 g s ch):=zhd ⟨Am,(ys _).out.ext hb9⟩;clear hb9 KR yb y0 ys;go_wp2;go_roundw
     case rel=>exact ⟨j+1,y,o2,by have:=HN1.out;omega,by go_num,rfl,HRL.out,⟨HY.out,HYN.out⟩,HO4,ex,R0,HSc⟩
     case measure=>simp[intOf];omega
   have d1:((z0:Int)==(x:Int))=false:=by rw[beq_eq_false_iff_ne];omega
   have HA1:=zhd (HA2.out.trans (if_neg (by omega)));by_cases he2:z0=u
   ·have d2:((z0:Int)==(u:Int))=true:=by rw[he2];simp
    have HA0:Hid (A=outP s.tab ch z0 x (l.drop (0+1))):=zhd (by rw[he2];exact HA1.out.trans (if_pos (by rw[he2])));clear HA2 HA1 he he2;go_wp2;clear q0 c0 b0 d1 d2;go_loopw [15,16,17,18,70] (fun ov _ _ _ iv wr=>∃(j z:Nat) (o:Int),j+1≤l.length∧iv=.int .i64 j∧ov=.int .i64 o∧(-1≤o∧o<s.tab.length)∧(nth l j=(z:Int)∧z<s.tab.length)∧Hid (A=outP s.tab ch z o (l.drop (j+1)))∧Below w.heap.size w wr∧Row wr w.heap.size 35 [s.p.n,s.p.ins,s.p.outs,.slice ca s.p.cs.length cc,s.p.an,.slice sa s.p.st.length sc,s.p.rounds,s.tn,.slice ta s.tab.length tc,.slice xa s.ex.length xc]∧Hid (∃Am,ScnV Am wr g s ch)) (fun _ _ _ _ iv _=>l.length - (intOf iv).toNat)
    case atStart=>exact ⟨0,z0,x,by omega,rfl,rfl,⟨by omega,by omega⟩,⟨hz0,hz0n⟩,HA0,ex,R0,HSc⟩
    case round=>
     clear ex R0 HSc HA0;obtain ⟨j,z,o,hj,rfl,rfl,ho,⟨hz,hzn⟩,HO,ex,R0,HSc⟩:=hrel;obtain ⟨Am,hAm⟩:=HSc.out;have qj:=HQI.out j (by omega);have cj:=HC.out j (by omega);rw[hz]at cj;by_cases hlt:j<n1
     case neg=>
      have hml:j+1=l.length:=by have:=HN1.out;omega
      have DW:IntKind.i64.wrap ((l.length:Int) - 1)=(j:Int):=by rw[IntWalk.i64_left,IntWalk.wrap64_in _ (by omega)];omega
      have HO2:Hid (A=endB ch z o):=zhd (by rw[HO.out,zga (by omega)]);replace cj:=zm cj ex;have bj:=World.block_lt_of_cell? _ _ cj;have KE:=zhd (fun W (hW:Below wr.heap.size wr W)=>ZO (hAm.ext hW) hzn ho.2);have l0:=R0.lt;obtain ⟨b,hb⟩:=zn (endB ch z o);rw[←hb]at KE HO2;clear HO hz hml hb hAm HSc;go_wp2_with fail;refine (KE.out _ (.refl _ _)).mono ?_;rintro _ w9 ⟨_,rfl,hb9,rfl⟩;replace ex:=za ex hb9;clear hb9 KE R0 l0 cj bj;cases b with
      | true=>
       have RE:Hid (r=0):=zhd (HQ4.out.trans (if_pos HO2.out));go_wp2;go_ret;exact .mk ex (zr RE.out.symm)
      | false=>
       have RE:Hid (r=18):=zhd (HQ4.out.trans (if_neg (by rw[HO2.out];decide)));go_wp2;go_ret;exact .mk ex (zr RE.out.symm)
     obtain ⟨y,hy,hyn⟩:=HRG.out (j+1) (by have:=HN1.out;omega);have qt:=HQT.out j hlt;have ct:=HCT.out j hlt;rw[hy]at ct;replace ct:=zm ct ex;replace cj:=zm cj ex;have bt:=World.block_lt_of_cell? _ _ ct;have bj:=World.block_lt_of_cell? _ _ cj;have HO2:Hid (A=(decide (0≤o)&&(hrsB s.tab y z&&outP s.tab ch y (repT s.tab y z o) (l.drop (j+1+1))))):=zhd (by rw[HO.out,ziE (by have:=HN1.out;omega) hy]);have HY:=zhd hy;have t8:=R0.zc 8 rfl;have l0:=R0.lt;have yb:=fun n=>za ex (zb wr.heap.size wr n);have y0:=fun n=>R0.ext (zb wr.heap.size wr n);have ys:=fun n=>zhd (hAm.ext (zb wr.heap.size wr n));by_cases ho0:o<0
     ·have d1:decide (o<0)=true:=decide_eq_true ho0;have HA1:Hid (A=false):=zhd (by rw[HO2.out,decide_eq_false (by omega),Bool.false_and]);have RE:Hid (r=18):=zhd (HQ4.out.trans (if_neg (by rw[HA1.out];decide)));clear ho HO HO2 hz hy hAm HSc ys y0 R0 ex;go_wp2;go_quiet (fail);go_wp2;go_ret;exact .mk (yb _) (zr RE.out.symm)
     have d1:decide (o<0)=false:=decide_eq_false ho0;have HO3:Hid (A=(hrsB s.tab y z&&outP s.tab ch y (repT s.tab y z o) (l.drop (j+1+1)))):=zhd (by rw[HO2.out,decide_eq_true (show 0≤o by omega),Bool.true_and]);have HRL:=zhd (ZR (T:=s.tab) (u:=y) (w:=z) (b:=o));have HWO:Hid (WF o):=zhd (WF.small (by omega));have hTV:=HTV.out.ext ex;have zq:=HQV.out z hzn;have yq:=HQV.out y hyn;obtain ⟨e0,p5,_⟩:=yO HTB.out hzn;obtain ⟨cz,_⟩:=hTV.nums (k:=z) hzn (by decide);obtain ⟨cy0,cyr⟩:=hTV.nums (k:=y) hyn (by decide);have cy:=cyr (3+prcT s.tab z) (by omega);rw[e0]at cz;have HH:Hid (hrsB s.tab y z=decide (nth (nthL s.tab y) (3+prcT s.tab z)=(z:Int))):=zhd rfl;obtain ⟨hv,hhv⟩:=zn (nth (nthL s.tab y) (3+prcT s.tab z));rw[←hhv]at cy HH;obtain ⟨pz,hpz⟩:=zn (prcT s.tab z);rw[←hpz]at cz cy p5;have xi:=qU (adr ta (y * 8)).block ((adr ta (y * 8)).off+3) p5;rw[←Nat.add_assoc]at cy;have bz:=World.block_lt_of_cell? _ _ cz;have by0:=World.block_lt_of_cell? _ _ cy0;clear HO HO2 hz hy cyr cy0 hhv hpz e0 hTV R0 ex hAm HSc;by_cases hh:hv=(z:Int)
     case neg=>
      have d2:(hv !=(z:Int))=true:=by simp[hh]
      have HA1:Hid (A=false):=zhd (by rw[HO3.out,HH.out,decide_eq_false hh,Bool.false_and]);have RE:Hid (r=18):=zhd (HQ4.out.trans (if_neg (by rw[HA1.out];decide)));clear ho HO3 HH hh;go_wp2;go_quiet (fail);go_wp2;go_ret;exact .mk (yb _) (zr RE.out.symm)
     have d2:(hv !=(z:Int))=false:=by simp[hh]
     have HO4:Hid (A=outP s.tab ch y (repT s.tab y z o) (l.drop (j+1+1))):=zhd (by rw[HO3.out,HH.out,decide_eq_true hh,Bool.true_and]);have KR:=zhd (fun n W (hW:Below (wr.drewN n).heap.size (wr.drewN n) W)=>YM (b:=o) ((ys n).out.ext hW) hyn hzn HWO.out);obtain ⟨o2,ho2⟩:=zn (repT s.tab y z o);rw[←ho2]at KR HO4 HRL;have HYN:=zhd hyn;clear ho HO3 HH hh ho2;go_wp2;go_quiet (fail);clear cy cz bz by0 xi zq yq d1 d2 qt ct bt qj cj bj t8 l0;go_wp2_with fail;refine (KR.out _ _ (.refl _ _)).mono ?_;rintro _ w9 ⟨_,rfl,hb9,rfl⟩;have ex:=za (yb _) hb9;have R0:=(y0 _).ext hb9;have HSc:Hid (∃Am,ScnV Am w9 g s ch):=zhd ⟨Am,(ys _).out.ext hb9⟩;clear hb9 KR yb y0 ys;go_wp2;go_roundw
     case rel=>exact ⟨j+1,y,o2,by have:=HN1.out;omega,by go_num,rfl,HRL.out,⟨HY.out,HYN.out⟩,HO4,ex,R0,HSc⟩
     case measure=>simp[intOf];omega
   have d2:((z0:Int)==(u:Int))=false:=by rw[beq_eq_false_iff_ne];omega
   have HA0:Hid (A=false):=zhd (HA1.out.trans (if_neg (by omega)));have RE:Hid (r=18):=zhd (HQ4.out.trans (if_neg (by rw[HA0.out];decide)));clear HA2 HA1 he he2;go_wp2;go_ret;exact .mk ex (zr RE.out.symm)
  have q1:=HQI.out k hlt;have c1:=zm (HC.out k hlt) ex;have b1:=World.block_lt_of_cell? _ _ c1;have HE:=zhd (HI.out k);have HST:Hid (∀u:Int,inE s.tab.length l k=u→u≠0→r=u):=zhd fun u hu hu0=>by
   have:=HZ.out.stop hu hu0 hlt;rw[HQ3.out,if_neg (by rw[this];exact hu0),this]
  have HNX:Hid (inE s.tab.length l k=0→Zeros (inE s.tab.length l) (k+1)):=zhd fun h=>HZ.out.next h;obtain ⟨xk,hxx⟩:∃x,x=nth l k:=⟨_,rfl⟩;rw[←hxx]at c1 HE;have t8:=R0.zc 8 rfl;have l0:=R0.lt;obtain ⟨Am,hAm⟩:=HSc.out;clear hxx;by_cases h1:xk<0
  ·have RE:=zhd (HST.out 6 (HE.out.trans (if_pos (.inl h1))) (by decide));have d1:decide (xk<0)=true:=decide_eq_true h1;clear h1;go_wp2;go_ret;exact .mk ex (zr RE.out.symm)
  have d1:decide (xk<0)=false:=decide_eq_false h1;by_cases h2:(s.tab.length:Int)≤xk
  ·have RE:=zhd (HST.out 6 (HE.out.trans (if_pos (.inr h2))) (by decide));have d2:decide ((s.tab.length:Int)≤xk)=true:=decide_eq_true h2;go_wp2;go_ret;exact .mk ex (zr RE.out.symm)
  have HZ2:=zhd (HNX.out (HE.out.trans (if_neg (fun h=>by omega))));have d2:decide ((s.tab.length:Int)≤xk)=false:=decide_eq_false h2;go_wp2;go_roundw
  case rel=>exact ⟨k+1,by omega,by go_num,HZ2,ex,R0,HSc⟩
  case measure=>simp[intOf];omega
end Go.Proofs.YtiabbjolepnjkaaGreat
namespace Go.Proofs.YtiabbjolepnjkaaGreat
def no52:List Int:=[-1, -1, -1, -1, -1, -1, -1, -1]
def on52:List Int:=[-1, -1, -1, -1, -1, -1,1, -1]
theorem zjo:ruleE e52S no52=0:=by decide+kernel
theorem zhf:ruleE e52S on52=0:=by decide+kernel
theorem zka:quoL e52S no52=[0,1,2,3,2,1,3,2]:=by decide+kernel
theorem zjY:quoL e52S on52=[0,1,2,3,2,4,5,2]:=by decide+kernel
theorem ziS:sizA e52S on52=6:=by decide+kernel
theorem zjq:pairE e52S on52 1 5=0:=by decide+kernel
theorem ziV:pairE e52S on52 2 4=0:=by decide+kernel
theorem zfM:disL e52S.tab on52 e52S.K 1 5=[1,3]:=by decide+kernel
theorem zfE:disL e52S.tab on52 e52S.K 2 4=[]:=by decide+kernel
theorem zjW:aprE e52S on52 1 5 [1,3]=0:=by decide+kernel
theorem zke:aprE e52S no52 1 5 [1,3]=18:=by decide+kernel
theorem zjN:verQ e52S on52 [0,1,2,3,2,4,5,2]=0:=by decide+kernel
theorem zjO:verQ e52S on52 [0,1,2,3,2,1,3,2]=18:=by decide+kernel
end Go.Proofs.YtiabbjolepnjkaaGreat
