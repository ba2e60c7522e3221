/- Part of the proof that the laws answer true for every input. -/
import Derived.Test.YtiabbjolepnjkaaGreatPDfB01
import Derived.Test.YtiabbjolepnjkaaGreatPDfB03
set_option linter.unusedSimpArgs false
set_option linter.unnecessarySimpa false
set_option linter.unusedVariables false
set_option maxRecDepth 100000
set_option maxHeartbeats 40000000
namespace Go.Proofs.YtiabbjolepnjkaaGreat
open Go.RowKit
attribute [local go_sem ↓] Go.wp_at_zero Go.wp_at_succ
theorem zj9 {T:List (List Int)} {u w:Nat} {b:Int} {z:List Int} (hz:(nthL T u).set (3+prcT T w) b=z):(z∈T∧repT T u w b=((idxV T z:Nat):Int))∨(z∉T∧repT T u w b= -1):=by
 unfold repT;rw[hz];by_cases h:z∈T
 ·left;exact ⟨h,by unfold indV;rw[if_pos h]⟩
 ·right;exact ⟨h,by unfold indV;rw[if_neg h]⟩
theorem zab {A:Nat→Prop} {w:World} {g:Nat} {s:SysF} {cl:List Int} {r f t a b:Nat} (h:ScnM A w g s cl) (ha:a<s.tab.length) (hb:b<s.tab.length) (hpa:prcT s.tab a=f) (hra:rndT s.tab a=r):
  Calls Tryz.prog 107 #[.pointer (some ⟨g,0,none⟩),.agg #[r,f,t],a,b] w (Post w fun _ q=>q=.bool (folP s.tab (nth cl) t a b)):=by
 obtain ⟨ca,cc,sa,sc,ta,tc,xa,xc,a3,c3,fa,fc,mb,R,_,hM,ht,hr,hL⟩:=h.mem;obtain ⟨hg,hgd,hlen,hfew⟩:=h.dat
 obtain ⟨_,_,hee,tad,_⟩:=ht.form2;cases hee;obtain ⟨i0,hi,hz⟩:=zK zO;have HQ:=zhd (zM Tryz.underlying30 hi hz tad);have HTB:=zhd hg.tab;have hf5:f<5:=by rw[←hpa];exact (yO HTB.out ha).2.1
 have hr6:r≤6:=by rw[←hra];have:=(yA HTB.out ha).2;have:=hg.K6;omega
 have HTV:=zhd ht;have HTR:Hid (∀k,k<s.tab.length→nth (nthL s.tab k) 0=(prcT s.tab k:Int)∧nth (nthL s.tab k) 1=(rndT s.tab k:Int)∧rndT s.tab k≤6):=zhd fun k hk=>⟨(yO HTB.out hk).1,(yA HTB.out hk).1,by have:=(yA HTB.out hk).2;have:=hg.K6;omega⟩;have HVO0:Hid (∀k,k<s.tab.length→(nthL s.tab k).length=8∧ViewOK ((nthL s.tab k).set (3+prcT s.tab a) (b:Int))):=zhd fun k hk=>⟨Zr HTB.out hk,zgr (Zr HTB.out hk) (zhJ HTV.out hk) (WF.small (by omega))⟩;have HRP:Hid (∀k z,(nthL s.tab k).set (3+prcT s.tab a) (b:Int)=z→(z∈s.tab∧repT s.tab k a b=((idxV s.tab z:Nat):Int))∨(z∉s.tab∧repT s.tab k a b= -1)):=zhd fun k z hz=>zj9 hz;have HHR:Hid (∀k,k<s.tab.length→(hrsB s.tab k a=true↔nth (nthL s.tab k) (3+f)=(a:Int))∧(hrsB s.tab k a=true→rndT s.tab k=r+1)):=zhd fun k hk=>⟨by rw[←hpa];exact xX,fun hh=>by rw[YL HTB.out hk ha hh,hra]⟩;rw[hpa]at HVO0 HRP;have HT:Hid (FopTo s.tab (nth cl) t a b s.tab.length→folP s.tab (nth cl) t a b=true):=zhd qP.2;have HN:Hid (∀k,k<s.tab.length→prcT s.tab k=t→hrsB s.tab k a=true→¬(0≤repT s.tab k a b∧nth cl (repT s.tab k a b).toNat=nth cl k)→folP s.tab (nth cl) t a b=false):=zhd fun k=>zjz;obtain ⟨q,hq⟩:=zn (folP s.tab (nth cl) t a b);rw[←hq]at HT HN ⊢;have H0:Hid (FopTo s.tab (nth cl) t a b 0):=zhd fun u hu=>by omega
 have HB:Hid (∀k, -1≤repT s.tab k a b∧repT s.tab k a b<s.tab.length):=zhd fun k=>ZR;have HI:=zhd hr;rw[hlen]at R HI;have HQ3:Hid (∀k,k<s.tab.length→∀W:World,(Instr.indexAt 36 (.slice a3 s.tab.length c3) (.int .i64 k)).run Tryz.prog W=.ok (.pointer (some (adr a3 k))) W):=zhd fun k hk W=>by
  have:=hr.idx (k:=k) (by rw[hlen];exact hk) W;rw[hlen]at this;exact this
 have HC3:Hid (∀k,k<s.tab.length→w.cell? (adr a3 k)=some (.int .i64 (nth cl k))):=zhd fun k hk=>hr.cellN (by rw[hlen];exact hk);obtain ⟨n,hn⟩:=zn s.tab.length;obtain ⟨m,hmx⟩:=zn (mN cl);rw[←hn]at R HQ HTV hfew HQ3 HC3 HTR HVO0 HHR HN HT;rw[←hmx]at R;have HNN:=zhd hn;have HRG:=zhd R;have HM:=zhd hM;have HIX:=zhd (fun B=>qU B 3 hf5);have hgw:=R.lt;have hmw:=hM.lt;have ex:=ze w (.cells #[r,f,t] 68);have RP:=zi w [r,f,t] 68;have g8:=(R.ext ex).zc 8 rfl;have lg:=(R.ext ex).lt;have hfew':n≤120:=hfew;clear hM ht hr hL hg hgd hlen hfew h tad hi hz hq hn hmx hpa hra ha hb R HI HTB;go_enter Tryz.func107,Tryz.ntmps107;go_wp2;clear g8 lg;go_loopw [9,10,11,12,20,52] (fun _ _ _ _ uv _ wr=>∃k:Nat,k≤n∧uv=.int .i64 k∧Hid (FopTo s.tab (nth cl) t a b k)∧Below w.heap.size w wr∧Row wr w.heap.size 68 [r,f,t]) (fun _ _ _ _ uv _ _=>n - (intOf uv).toNat)
 case atStart=>exact ⟨0,Nat.zero_le _,rfl,H0,ex,RP⟩
 case round=>
  clear ex RP;obtain ⟨k,hk,rfl,HF,ex,RP⟩:=hrel;by_cases hlt:k<n
  case neg=>
   have HR:Hid (q=true):=zhd (HT.out (by rw[show n=k by omega];exact HF.out));go_wp2;go_ret;exact .mk ex (zE HR.out.symm)
  have vq:=HQ.out k hlt;have hkt:k<s.tab.length:=by have:=HNN.out;omega
  have hnum:=((show Sl (kFlat 8) A w (.slice ta s.tab.length tc) s.tab by rw[←HNN.out];exact HTV.out).nums (k:=k) hkt (by decide));have hHR:=HHR.out k hlt;have hTR:=HTR.out k hlt;have hVO:=HVO0.out k hlt;have HRPk:=zhd (HRP.out k);have HNX:Hid ((prcT s.tab k=t→hrsB s.tab k a=true→0≤repT s.tab k a b∧nth cl (repT s.tab k a b).toNat=nth cl k)→FopTo s.tab (nth cl) t a b (k+1)):=zhd fun hh=>HF.out.next hh;have HST:=zhd (HN.out k hlt);have HBK:=zhd (HB.out k);obtain ⟨y,hy⟩:=zn (nthL s.tab k);rw[←hy]at hnum hHR hTR hVO HRPk;have HNUM:=zhd hnum;have HHRk:=zhd hHR;have HTRk:=zhd hTR;have HVOk:=zhd hVO;obtain ⟨h1,hh1⟩:=zn (hrsB s.tab k a);obtain ⟨y2,hy2⟩:=zn (repT s.tab k a b);obtain ⟨pu,hpu⟩:∃p,p=prcT s.tab k:=⟨_,rfl⟩;obtain ⟨ru,hru⟩:=zn (rndT s.tab k);rw[←hh1]at HNX HST HHRk;rw[←hy2]at HNX HST HBK HRPk;rw[←hpu]at HNX HST HTRk;rw[←hru]at HHRk HTRk;have u0:=zm HNUM.out.1 ex;have u1:=zm (HNUM.out.2 1 (by decide)) ex;have u2:=zm (HNUM.out.2 2 (by decide)) ex;have u3:=zm (HNUM.out.2 3 (by decide)) ex;have u4:=zm (HNUM.out.2 4 (by decide)) ex;have u5:=zm (HNUM.out.2 5 (by decide)) ex;have u6:=zm (HNUM.out.2 6 (by decide)) ex;have u7:=zm (HNUM.out.2 7 (by decide)) ex;have bv:=World.block_lt_of_cell? _ _ u0;have p0:=RP.zc 0 rfl;have p1:=RP.zc 1 rfl;have p2:=RP.zc 2 rfl;have lp:=RP.lt;have eV:=ze wr (.cells #[nth y 0,nth y 1,nth y 2,nth y 3,nth y 4,nth y 5,nth y 6,nth y 7] 65);have RV:=zi wr [nth y 0,nth y 1,nth y 2,nth y 3,nth y 4,nth y 5,nth y 6,nth y 7] 65;have RPv:=RP.ext eV;have exv:=za ex eV;have hpw:=RP.lt;clear hnum hHR hTR hVO hy hh1 hy2 hpu hru RP ex HF hkt;go_upto_region 4 with fail;obtain ⟨wv,hwv⟩:=zn (wr.alloc (.cells #[nth y 0,nth y 1,nth y 2,nth y 3,nth y 4,nth y 5,nth y 6,nth y 7] 65));obtain ⟨VB,hVB⟩:=zn wr.heap.size;rw[←hwv]at RV RPv exv ⊢;rw[←hVB]at RV hpw ⊢;have hVw:w.heap.size<VB:=hpw;clear hwv hVB u0 u1 u2 u3 u4 u5 u6 u7 bv vq p0 p1 p2 lp eV;have v0:wv.cell? ⟨VB,0,none⟩=some (.int .i64 (pu:Int)):=by rw[←HTRk.out.1];exact RV.zc 0 rfl
  have v1:wv.cell? ⟨VB,1,none⟩=some (.int .i64 (ru:Int)):=by rw[←HTRk.out.2.1];exact RV.zc 1 rfl
  have RX:Row wv VB 65 (y.map (Value.int .i64)):=by rw[cells8 HVOk.out.1];exact RV
  have vf:wv.cell? ⟨VB,3+f,none⟩=some (.int .i64 (nth y (3+f))):=RX.cell (by rw[List.getElem?_map,get?_nth (by rw[HVOk.out.1];omega)];rfl);have lv:=RV.lt;have p0:=RPv.zc 0 rfl;have p1:=RPv.zc 1 rfl;have p2:=RPv.zc 2 rfl;have lp:=RPv.lt;have xi:=HIX.out VB;have hru6:=HTRk.out.2.2;obtain ⟨hf,hhf⟩:∃x,x=nth y (3+f):=⟨_,rfl⟩;rw[←hhf]at vf HHRk;have HHF:=zhd hhf;clear RV hhf;by_cases e1:ru=r+1
  case neg=>
   have d1:((ru:Int) !=(r:Int)+1)=true:=by rw[bne_iff_ne];omega
   have HF2:=zhd (HNX.out fun hp hh=>absurd (HHRk.out.2 hh) e1);clear HNX HST e1 HHRk;go_wp2;go_roundw
   case rel=>exact ⟨k+1,by omega,by go_num,HF2,exv,RPv⟩
   case measure=>simp[intOf];omega
  have d1:((ru:Int) !=(r:Int)+1)=false:=by rw[bne_eq_false_iff_eq];omega
  by_cases e2:pu=t
  case neg=>
   have d2:((pu:Int) !=(t:Int))=true:=by rw[bne_iff_ne];omega
   have HF2:=zhd (HNX.out fun hp hh=>absurd hp e2);clear HNX HST e1 e2 HHRk;go_wp2;go_roundw
   case rel=>exact ⟨k+1,by omega,by go_num,HF2,exv,RPv⟩
   case measure=>simp[intOf];omega
  have d2:((pu:Int) !=(t:Int))=false:=by simp[e2]
  by_cases e3:hf=(a:Int)
  case neg=>
   have d3:(hf !=(a:Int))=true:=by rw[bne_iff_ne];exact e3
   have HF2:=zhd (HNX.out fun hp hh=>absurd (HHRk.out.1.1 hh) e3);clear HNX HST e1 e2 e3 HHRk;go_wp2;go_roundw
   case rel=>exact ⟨k+1,by omega,by go_num,HF2,exv,RPv⟩
   case measure=>simp[intOf];omega
  have d3:(hf !=(a:Int))=false:=by simp[e3]
  have hh2:=HHRk.out.1.2 e3;have HST2:=zhd (HST.out e2 hh2);have HNX2:=zhd (fun h=>HNX.out fun _ _=>h);have fx:=RX.free (3+f);have RP2:=RPv.grown (zj wv VB (3+f) (.int .i64 b)) (fun e=>by injection e with e;omega);have RX2:=RX.set (3+f) (.int .i64 b);rw[zbx HVOk.out.1 hf5,cells8 (show (y.set (3+f) (b:Int)).length=8 by rw[List.length_set];exact HVOk.out.1)]at RX2;have ex2:=exv.setCell (p:=⟨VB,3+f,none⟩) (show w.heap.size≤VB by omega) (.int .i64 b);clear e1 e2 e3 HHRk HNX HST hh2 RX exv RPv HNUM;go_upto_region 6 with fail;clear v0 v1 vf lv p0 p1 p2 lp xi fx d1 d2 d3 hru6;obtain ⟨W2,hW2⟩:=zn (wv.setCell ⟨VB,3+f,none⟩ (.int .i64 b));rw[←hW2]at RP2 RX2 ex2 ⊢;obtain ⟨z,hz⟩:=zn (y.set (3+f) (b:Int));have HVO:=zhd HVOk.out.2;have HRZ:=zhd (HRPk.out z hz.symm);rw[←hz]at RX2 HVO;have HKV:=zhd (xm HVO.out.1);have RG2:=HRG.out.ext ex2;have KEEP:Hid (∀w',Below W2.heap.size W2 w'→(fun w':World=>w'.cell? ⟨g,12,none⟩=some (.map (some mb))∧w'.cell? ⟨VB,0,none⟩=some (.int .i64 (nth z 0))∧w'.cell? ⟨VB,1,none⟩=some (.int .i64 (nth z 1))∧w'.cell? ⟨VB,2,none⟩=some (.int .i64 (nth z 2))∧w'.cell? ⟨VB,3,none⟩=some (.int .i64 (nth z 3))∧w'.cell? ⟨VB,4,none⟩=some (.int .i64 (nth z 4))∧w'.cell? ⟨VB,5,none⟩=some (.int .i64 (nth z 5))∧w'.cell? ⟨VB,6,none⟩=some (.int .i64 (nth z 6))∧w'.cell? ⟨VB,7,none⟩=some (.int .i64 (nth z 7))) w'):=zhd fun w' hw=>⟨(RG2.ext hw).zc 12 rfl,(RX2.ext hw).zc 0 rfl,(RX2.ext hw).zc 1 rfl,(RX2.ext hw).zc 2 rfl,(RX2.ext hw).zc 3 rfl,(RX2.ext hw).zc 4 rfl,(RX2.ext hw).zc 5 rfl,(RX2.ext hw).zc 6 rfl,(RX2.ext hw).zc 7 rfl⟩;have HMP:=zhd ((HM.out.ext ex2).ext (zb W2.heap.size W2 1));have HIN:Hid (numM s.tab z=if z∈s.tab then some (.int .i64 (idxV s.tab z:Nat)) else none):=zhd rfl;obtain ⟨W3,hW3⟩:=zn (W2.drewN 1);have hW3':W2.drew=W3:=hW3.symm;have ex3:=za ex2 (zb W2.heap.size W2 1);have RP3:=RP2.ext (zb W2.heap.size W2 1);have RG3:=RG2.ext (zb W2.heap.size W2 1);rw[←hW3]at ex3 RP3 RG3;have HW3:=zhd hW3';have HEX:=zhd (fun n=>za ex3 (zb W3.heap.size W3 n));have HRP3:=zhd (fun n=>RP3.ext (zb W3.heap.size W3 n));have g10:=RG3.zc 10 rfl;have lg3:=RG3.lt;clear hW2 RX2 hz ex2 RP2 RP3 RG2 RG3 hW3 hW3' HVOk HRPk wv;by_cases hin:z∈s.tab
  case neg=>
   have HNM:=zhd (HIN.out.trans (if_neg hin));have HRR:Hid (q=false):=zhd (HST2.out (fun h=>by
    rcases HRZ.out with ⟨h1,_⟩ | ⟨_,h1⟩
    ·exact absurd h1 hin
    ·rw[h1]at h;omega))
   clear hin HIN HST2 HNX2 HRZ;refine zF (fun w':World=>w'.cell? ⟨g,12,none⟩=some (.map (some mb))∧w'.cell? ⟨VB,0,none⟩=some (.int .i64 (nth z 0))∧w'.cell? ⟨VB,1,none⟩=some (.int .i64 (nth z 1))∧w'.cell? ⟨VB,2,none⟩=some (.int .i64 (nth z 2))∧w'.cell? ⟨VB,3,none⟩=some (.int .i64 (nth z 3))∧w'.cell? ⟨VB,4,none⟩=some (.int .i64 (nth z 4))∧w'.cell? ⟨VB,5,none⟩=some (.int .i64 (nth z 5))∧w'.cell? ⟨VB,6,none⟩=some (.int .i64 (nth z 6))∧w'.cell? ⟨VB,7,none⟩=some (.int .i64 (nth z 7))) (fun i=>false) (by kernel_rfl) ?_ (fun hHeld=>?_)
   ·exact KEEP.out _ (zb W2.heap.size W2 1)
   refine zt 0 hHeld ?_;refine zt 1 hHeld ?_;refine zt 2 hHeld ?_;refine zt 3 hHeld ?_;refine zt 4 hHeld ?_;refine zo 5 (fun K hK=>?_)
   (refine xj rfl _ _ 134 (by rfl) 3 Tryz.underlying134 (.int .i64 0) (ym _) (by rfl) HMP.out z (by rw[HKV.out];rfl) HVO.out ?_;rw[HNM.out])
   refine zk hK (KEEP.out _ (zb W2.heap.size W2 1)) (fun hHeld=>?_);clear hK K;refine zt 6 hHeld ?_;refine zt 7 hHeld ?_;refine zt 8 hHeld ?_;refine zt 9 hHeld ?_;refine zt 10 hHeld ?_;refine zz (by kernel_rfl) ?_ _;rw[HW3.out];clear hHeld KEEP HMP ex3;go_wp2;go_quiet (fail);go_wp2;go_ret;exact .mk (HEX.out _) (zE HRR.out.symm)
  have HNM:=zhd (HIN.out.trans (if_pos hin));have hyz:y2=((idxV s.tab z:Nat):Int):=by
   rcases HRZ.out with ⟨_,h1⟩ | ⟨h1,_⟩
   ·exact h1
   ·exact absurd hin h1
  obtain ⟨i,hii⟩:=zn (idxV s.tab z);rw[←hii]at hyz HNM;subst hyz;have hin':i<n:=by have:=HBK.out.2;have:=HNN.out;omega
  have qi:=HQ3.out i hin';have qk:=HQ3.out k hlt;have ci:=zm (HC3.out i hin') ex3;have ck:=zm (HC3.out k hlt) ex3;have bi:=World.block_lt_of_cell? _ _ ci;have bk:=World.block_lt_of_cell? _ _ ck;obtain ⟨li,hli⟩:∃l,l=nth cl i:=⟨_,rfl⟩;obtain ⟨lk,hlk⟩:∃l,l=nth cl k:=⟨_,rfl⟩;rw[←hli]at ci;rw[←hlk]at ck;have HLI:=zhd hli;have HLK:=zhd hlk;clear hin HIN HRZ hii hli hlk ex3;refine zF (fun w':World=>w'.cell? ⟨g,12,none⟩=some (.map (some mb))∧w'.cell? ⟨VB,0,none⟩=some (.int .i64 (nth z 0))∧w'.cell? ⟨VB,1,none⟩=some (.int .i64 (nth z 1))∧w'.cell? ⟨VB,2,none⟩=some (.int .i64 (nth z 2))∧w'.cell? ⟨VB,3,none⟩=some (.int .i64 (nth z 3))∧w'.cell? ⟨VB,4,none⟩=some (.int .i64 (nth z 4))∧w'.cell? ⟨VB,5,none⟩=some (.int .i64 (nth z 5))∧w'.cell? ⟨VB,6,none⟩=some (.int .i64 (nth z 6))∧w'.cell? ⟨VB,7,none⟩=some (.int .i64 (nth z 7))) (fun i=>false) (by kernel_rfl) ?_ (fun hHeld=>?_)
  ·exact KEEP.out _ (zb W2.heap.size W2 1)
  refine zt 0 hHeld ?_;refine zt 1 hHeld ?_;refine zt 2 hHeld ?_;refine zt 3 hHeld ?_;refine zt 4 hHeld ?_;refine zo 5 (fun K hK=>?_)
  (refine xj rfl _ _ 134 (by rfl) 3 Tryz.underlying134 (.int .i64 0) (ym _) (by rfl) HMP.out z (by rw[HKV.out];rfl) HVO.out ?_;rw[HNM.out])
  refine zk hK (KEEP.out _ (zb W2.heap.size W2 1)) (fun hHeld=>?_);clear hK K;refine zt 6 hHeld ?_;refine zt 7 hHeld ?_;refine zt 8 hHeld ?_;refine zt 9 hHeld ?_;refine zt 10 hHeld ?_;refine zz (by kernel_rfl) ?_ _;rw[HW3.out];clear hHeld KEEP HMP;by_cases he:li=lk
  ·have d2:(li !=lk)=false:=by simp[he]
   have HF2:=zhd (HNX2.out ⟨by omega,by rw[Int.toNat_natCast,←HLI.out,←HLK.out,he]⟩);clear he HNX2 HST2 HLI HLK HBK;go_wp2;go_quiet (fail);go_wp2;go_roundw
   case rel=>exact ⟨k+1,by omega,by go_num,HF2,HEX.out _,HRP3.out _⟩
   case measure=>simp[intOf];omega
  ·have d2:(li !=lk)=true:=by simp[he]
   have HRR:Hid (q=false):=zhd (HST2.out fun h=>he (by rw[HLI.out,HLK.out];have:=h.2;rwa [Int.toNat_natCast]at this));clear he HNX2 HST2 HLI HLK HBK;go_wp2;go_quiet (fail);go_wp2;go_ret;exact .mk (HEX.out _) (zE HRR.out.symm)
end Go.Proofs.YtiabbjolepnjkaaGreat
