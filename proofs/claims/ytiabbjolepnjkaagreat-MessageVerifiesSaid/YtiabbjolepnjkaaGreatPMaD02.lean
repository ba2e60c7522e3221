/- Part of the proof that the laws answer true for every input. -/
import Derived.Test.YtiabbjolepnjkaaGreatPMaD01
set_option linter.unusedSimpArgs false
set_option linter.unnecessarySimpa false
set_option linter.unusedVariables false
set_option maxRecDepth 100000
set_option maxHeartbeats 40000000
namespace Go.Proofs.YtiabbjolepnjkaaGreat
open Go.RowKit
attribute [local go_sem ↓] Go.wp_at_zero Go.wp_at_succ
def EnoTo (T:List (List Int)) (cl sy:List Int) (t a b:Nat):Prop:=(∀i j,i<a→j<i→enoP T cl sy t i j)∧∀j,j<b→enoP T cl sy t a j
theorem EnoTo.next {T:List (List Int)} {cl sy:List Int} {t a b:Nat} (h:EnoTo T cl sy t a b) (hp:enoP T cl sy t a b):EnoTo T cl sy t a (b+1):=⟨h.1,fun j hj=>by
 by_cases e:j=b
 ·subst e;exact hp
 ·exact h.2 j (by omega)⟩
theorem EnoTo.row {T:List (List Int)} {cl sy:List Int} {t a:Nat} (h:EnoTo T cl sy t a a):EnoTo T cl sy t (a+1) 0:=⟨fun i j hi hj=>by
 by_cases e:i=a
 ·subst e;exact h.2 j hj
 ·exact h.1 i j (by omega) hj,fun j hj=>by omega⟩
theorem EnoTo.done {T:List (List Int)} {cl sy:List Int} {t:Nat} (h:EnoTo T cl sy t sy.length 0):enoB T cl sy t=true:=za4.2 fun a b ha hb=>h.1 a b ha hb
theorem zgc {T:List (List Int)} {cl sy:List Int} {t a b:Nat} (ha:a<sy.length) (hb:b<a) (h:¬enoP T cl sy t a b):enoB T cl sy t=false:=by
 cases e:enoB T cl sy t with
 | false=>rfl
 | true=>exact absurd (za4.1 e a b ha hb) h
theorem zde {S S3 S4:Nat→Prop} {w:World} {v vcl vsy:Value} {s:SysF} {cl sy:List Int} (r f t:Int) (h:SysV S w v s) (hf:SmallP s.p) (h3:Ints S3 w vcl cl) (h4:Ints S4 w vsy sy) (hm:s.tab.length≤60000):
  Calls Tryz.prog 36 #[v,vcl,.agg #[r,f,t],vsy] w (Post w fun _ q=>q=.int .i64 (vsyE s cl sy r f t)):=by
 have KP:Hid (∀W,Below w.heap.size w W→Calls Tryz.prog 65 #[v,vcl,.agg #[r,f,t]] W (Post W fun _ q=>q=.int .i64 (plcE s cl r f t))):=zhd fun W hW=>ZP r f t (h.ext hW) hf (h3.ext hW) hm;have KN:Hid (plcE s cl r f t=0→∀W,Below w.heap.size w W→Calls Tryz.prog 42 #[vcl] W (Post W fun _ q=>q=.int .i64 (mN cl:Nat))):=zhd fun h0 W hW=>by
  have:=xf (h3.ext hW) (yE h h0).2.1;rw[zfT]at this;exact this
 have KS:Hid (plcE s cl r f t=0→∀c,c<mN cl→∀W,Below w.heap.size w W→Calls Tryz.prog 75 #[v,vcl,.agg #[r,f,t],c] W (Post W fun _ q=>q=.bool (sndB s.tab cl r.toNat f.toNat c))):=zhd fun h0 c hc W hW=>by
  obtain ⟨g1,g2,g3⟩:=yE h h0;obtain ⟨e1,e2,e3⟩:=yZ h0;have:=Qk (r:=r.toNat) (f:=f.toNat) (t:=t.toNat) (h.ext hW) g1 (h3.ext hW) hm (yw g2 g3) hc;rw[←e1,←e2,←e3]at this;exact this
 have KE:Hid (plcE s cl r f t=0→∀c d,c<mN cl→d<mN cl→∀W,Below w.heap.size w W→Calls Tryz.prog 76 #[v,vcl,.agg #[r,f,t],c,d] W (Post W fun _ q=>q=.bool (eqC s.tab cl t.toNat c d))):=zhd fun h0 c d hc hd W hW=>by
  obtain ⟨g1,g2,g3⟩:=yE h h0;obtain ⟨e1,e2,e3⟩:=yZ h0;have:=Qu (r:=r.toNat) (f:=f.toNat) (t:=t.toNat) (h.ext hW) g1 (h3.ext hW) hm (yw g2 g3) hc hd;rw[←e1,←e2,←e3]at this;exact this
 have HQ:Hid (vsyE s cl sy r f t=if plcE s cl r f t=0 then (if sy.length=mN cl then (if firstE (sfmE s.tab cl sy r.toNat f.toNat) sy.length=0 then (if enoB s.tab cl sy t.toNat then 0 else 18) else 2) else 3) else plcE s cl r f t):=zhd (by
  unfold vsyE;rfl)
 have HSFD:Hid (∀c,sfmE s.tab cl sy r.toNat f.toNat c=if (decide (0≤nth sy c)=sndB s.tab cl r.toNat f.toNat c)∧ -1≤nth sy c∧nth sy c≤1048576 then 0 else 2):=zhd fun c=>rfl;have HEN:Hid ((EnoTo s.tab cl sy t.toNat sy.length 0→enoB s.tab cl sy t.toNat=true)∧∀a b,a<sy.length→b<a→¬enoP s.tab cl sy t.toNat a b→enoB s.tab cl sy t.toNat=false):=zhd ⟨EnoTo.done,fun a b=>zgc⟩;have HMB:Hid (plcE s cl r f t=0→mN cl≤60000):=zhd fun h0=>by
  obtain ⟨g1,g2,g3⟩:=yE h h0;have:=zbe g2;omega
 obtain ⟨q,hq⟩:=zn (vsyE s cl sy r f t);rw[←hq]at HQ ⊢;obtain ⟨e,hee⟩:=zn (plcE s cl r f t);rw[←hee]at KP KN KS KE HQ HMB;obtain ⟨ca,cc,sa,sc,ta,tc,xa,xc,rfl,hc,hs,ht,hx⟩:=h.zf;obtain ⟨a3,c3,rfl,_⟩:=h3.form;obtain ⟨a4,c4,rfl,_⟩:=h4.form;have HI:=zhd h4;obtain ⟨ex,R0,R1⟩:=zb2 w [s.p.n,s.p.ins,s.p.outs,.slice ca s.p.cs.length cc,s.p.an,.slice sa s.p.st.length sc,s.p.rounds,s.tn,.slice ta s.tab.length tc,.slice xa s.ex.length xc] [r,f,t] 35 72;clear hc hs ht hx h3 h4 hf hm hq hee;obtain ⟨t0,t1,t2,t3,t4,t5,t6,t7,t8,t9⟩:=R0.ten;have l0:=R0.lt;have p0:=R1.zc 0 rfl;have p1:=R1.zc 1 rfl;have p2:=R1.zc 2 rfl;have l1:=R1.lt;go_enter Tryz.func36,Tryz.ntmps36;go_wp2_with fail;refine (KP.out _ ex).mono ?_;rintro _ w1 ⟨_,rfl,hb,rfl⟩;replace R0:=R0.ext hb;replace R1:=R1.ext hb;replace ex:=za ex hb;clear hb KP t0 t1 t2 t3 t4 t5 t6 t7 t8 t9 l0 p0 p1 p2 l1;by_cases h0:e=0
 case neg=>
  have RE:=zhd (HQ.out.trans (if_neg h0));have d0:(e !=0)=true:=by simp[h0]
  clear h0 HQ KN KS KE;go_wp2;go_ret;exact .mk ex (zm RE.out.symm)
 have HQ1:=zhd (HQ.out.trans (if_pos h0));have d0:(e !=0)=false:=by simp[h0]
 have KN1:=zhd (KN.out h0);have KS1:=zhd (KS.out h0);have KE1:=zhd (KE.out h0);have hmb:=HMB.out h0;obtain ⟨m,hmx⟩:=zn (mN cl);rw[←hmx]at KN1 KS1 KE1 HQ1 hmb;obtain ⟨n,hnx⟩:=zn sy.length;rw[←hnx]at HQ1 HI HEN;have HNL:=zhd hnx;clear h0 HQ KN KS KE HMB hmx hnx;rw[←HNL.out];obtain ⟨t0,t1,t2,t3,t4,t5,t6,t7,t8,t9⟩:=R0.ten;have l0:=R0.lt;have p0:=R1.zc 0 rfl;have p1:=R1.zc 1 rfl;have p2:=R1.zc 2 rfl;have l1:=R1.lt;go_wp2_with fail;refine (KN1.out _ ex).mono ?_;rintro _ w2 ⟨_,rfl,hb,rfl⟩;replace R0:=R0.ext hb;replace R1:=R1.ext hb;replace ex:=za ex hb;clear hb KN1 t0 t1 t2 t3 t4 t5 t6 t7 t8 t9 l0 p0 p1 p2 l1;by_cases h1:n=m
 case neg=>
  have RE:=zhd (HQ1.out.trans (if_neg h1));have d1:((n:Int) !=(m:Int))=true:=by rw[bne_iff_ne];omega
  clear h1 HQ1;go_wp2;go_ret;exact .mk ex (zm RE.out.symm)
 have HV:=zhd (HQ1.out.trans (if_pos h1));have d1:((n:Int) !=(m:Int))=false:=by simp[h1]
 have HNM:=zhd h1;have hn60:n≤60000:=by omega
 have H00:Hid (Zeros (sfmE s.tab cl sy r.toNat f.toNat) 0):=zhd fun j hj=>by omega
 clear h1 HQ1;go_wp2;clear d0 d1;go_loopw [10,11] (fun iv _ wr=>∃k:Nat,k≤n∧iv=.int .i64 k∧Hid (Zeros (sfmE s.tab cl sy r.toNat f.toNat) k)∧Below w.heap.size w wr∧Row wr w.heap.size 35 [s.p.n,s.p.ins,s.p.outs,.slice ca s.p.cs.length cc,s.p.an,.slice sa s.p.st.length sc,s.p.rounds,s.tn,.slice ta s.tab.length tc,.slice xa s.ex.length xc]∧Row wr (w.heap.size+1) 72 [r,f,t]) (fun iv _ _=>n - (intOf iv).toNat)
 case atStart=>exact ⟨0,Nat.zero_le _,rfl,H00,ex,R0,R1⟩
 case round=>
  clear ex R0 R1 H00;obtain ⟨k,hk,rfl,HST,ex,R0,R1⟩:=hrel;obtain ⟨t0,t1,t2,t3,t4,t5,t6,t7,t8,t9⟩:=R0.ten;have l0:=R0.lt;have p0:=R1.zc 0 rfl;have p1:=R1.zc 1 rfl;have p2:=R1.zc 2 rfl;have l1:=R1.lt;by_cases hlt:k<n
  case neg=>
   have HV1:=zhd (HV.out.trans (if_pos (HST.out.done (by omega))));have HE0:Hid (EnoTo s.tab cl sy t.toNat 0 0):=zhd ⟨fun i j hi=>by omega,fun j hj=>by omega⟩;clear HST HV t0 t1 t2 t3 t4 t5 t6 t7 t8 t9 l0 p0 p1 p2 l1;go_wp2;go_loopw [12,13] (fun av _ wr=>∃a:Nat,a≤n∧av=.int .i64 a∧Hid (EnoTo s.tab cl sy t.toNat a 0)∧Below w.heap.size w wr∧Row wr w.heap.size 35 [s.p.n,s.p.ins,s.p.outs,.slice ca s.p.cs.length cc,s.p.an,.slice sa s.p.st.length sc,s.p.rounds,s.tn,.slice ta s.tab.length tc,.slice xa s.ex.length xc]∧Row wr (w.heap.size+1) 72 [r,f,t]) (fun av _ _=>n - (intOf av).toNat)
   case atStart=>exact ⟨0,Nat.zero_le _,rfl,HE0,ex,R0,R1⟩
   case round=>
    clear ex R0 R1 HE0;obtain ⟨a,ha,rfl,HET,ex,R0,R1⟩:=hrel;by_cases hla:a<n
    case neg=>
     obtain rfl:a=n:=by omega
     have RE:Hid (q=0):=zhd (by rw[HV1.out,HEN.out.1 HET.out];rfl);clear HET HV1;go_wp2;go_ret;exact .mk ex (zm RE.out.symm)
    have HRW:=zhd (fun h:EnoTo s.tab cl sy t.toNat a a=>h.row);go_wp2;go_loopw [13] (fun bv wr=>∃b:Nat,b≤a∧bv=.int .i64 b∧Hid (EnoTo s.tab cl sy t.toNat a b)∧Below w.heap.size w wr∧Row wr w.heap.size 35 [s.p.n,s.p.ins,s.p.outs,.slice ca s.p.cs.length cc,s.p.an,.slice sa s.p.st.length sc,s.p.rounds,s.tn,.slice ta s.tab.length tc,.slice xa s.ex.length xc]∧Row wr (w.heap.size+1) 72 [r,f,t]) (fun bv _=>a - (intOf bv).toNat)
    case atStart=>exact ⟨0,Nat.zero_le _,rfl,HET,ex,R0,R1⟩
    case round=>
     clear ex R0 R1 HET;obtain ⟨b,hb,rfl,HET,ex,R0,R1⟩:=hrel;by_cases hlb:b<a
     case neg=>
      obtain rfl:b=a:=by omega
      have HE2:=zhd (HRW.out HET.out);clear HET;go_wp2;go_roundw
      case rel=>exact ⟨b+1,by omega,by go_num,HE2,ex,R0,R1⟩
      case measure=>simp[intOf];omega
     have hi:=HI.out.ext ex;have qa:∀W:World,(Instr.indexAt 36 (.slice a4 n c4) (.int .i64 a)).run Tryz.prog W=.ok (.pointer (some (adr a4 a))) W:=fun W=>by rw[HNL.out];exact (show Ints S4 _ (.slice a4 sy.length c4) sy by rw[←HNL.out];exact hi).idx (by rw[←HNL.out];exact hla) W
     have qb:∀W:World,(Instr.indexAt 36 (.slice a4 n c4) (.int .i64 b)).run Tryz.prog W=.ok (.pointer (some (adr a4 b))) W:=fun W=>by rw[HNL.out];exact (show Ints S4 _ (.slice a4 sy.length c4) sy by rw[←HNL.out];exact hi).idx (by rw[←HNL.out];omega) W
     have ca4:=hi.cellN (k:=a) (by rw[←HNL.out];exact hla);have cb4:=hi.cellN (k:=b) (by rw[←HNL.out];omega);have ba:=World.block_lt_of_cell? _ _ ca4;have bb:=World.block_lt_of_cell? _ _ cb4;have HPD:Hid (enoP s.tab cl sy t.toNat a b↔(0≤nth sy a→nth sy a=nth sy b→eqC s.tab cl t.toNat a b=true)):=zhd Iff.rfl;have HNX:Hid (enoP s.tab cl sy t.toNat a b→EnoTo s.tab cl sy t.toNat a (b+1)):=zhd fun h=>HET.out.next h;have HNO:=zhd (HEN.out.2 a b hla hlb);have KE3:=zhd (KE1.out a b (by have:=HNM.out;omega) (by have:=HNM.out;omega));obtain ⟨ya,hya⟩:∃y,y=nth sy a:=⟨_,rfl⟩;obtain ⟨yb,hyb⟩:∃y,y=nth sy b:=⟨_,rfl⟩;obtain ⟨z,hz⟩:=zn (eqC s.tab cl t.toNat a b);rw[←hya]at ca4 HPD;rw[←hyb]at cb4 HPD;rw[←hz]at KE3 HPD;have yx:=fun n=>za ex (zb wr.heap.size wr n);have y0:=fun n=>R0.ext (zb wr.heap.size wr n);have y1':=fun n=>R1.ext (zb wr.heap.size wr n);clear hya hyb hz HET hi;by_cases hy0:0≤ya
     case neg=>
      have dy:decide (0≤ya)=false:=decide_eq_false hy0;have HE2:=zhd (HNX.out (HPD.out.2 fun h=>absurd h hy0));clear hy0 HPD HNX HNO KE3 ex R0 R1;go_wp2;go_quiet (fail);go_wp2;go_roundw
      case rel=>exact ⟨b+1,by omega,by go_num,HE2,yx _,y0 _,y1' _⟩
      case measure=>simp[intOf];omega
     have dy:decide (0≤ya)=true:=decide_eq_true hy0;by_cases hyy:ya=yb
     case neg=>
      have dyy:(ya==yb)=false:=by rw[beq_eq_false_iff_ne];exact hyy
      have HE2:=zhd (HNX.out (HPD.out.2 fun _ h=>absurd h hyy));clear hy0 hyy HPD HNX HNO KE3 ex R0 R1;go_wp2;go_quiet (fail);go_wp2;go_roundw
      case rel=>exact ⟨b+1,by omega,by go_num,HE2,yx _,y0 _,y1' _⟩
      case measure=>simp[intOf];omega
     subst hyy;have dyy:(ya==ya)=true:=by simp
     have HEX:=zhd ex;have HR0:=zhd R0;have HR1:=zhd R1;have KE2:Hid (∀W,Below wr.heap.size wr W→Calls Tryz.prog 76 #[.agg #[s.p.n,s.p.ins,s.p.outs,.slice ca s.p.cs.length cc,s.p.an,.slice sa s.p.st.length sc,s.p.rounds,s.tn,.slice ta s.tab.length tc,.slice xa s.ex.length xc],.slice a3 cl.length c3,.agg #[r,f,t],a,b] W (Post W fun _ q=>q=.bool z)):=zhd fun W hW=>KE3.out W (za HEX.out hW);obtain ⟨B0,hB0⟩:=zn w.heap.size;obtain ⟨B1,hB1⟩:=zn (w.heap.size+1);rw[←hB0]at R0;rw[←hB1]at R1;have HBB:=zhd (And.intro hB0 hB1);have KL:Hid (∀w',Below wr.heap.size wr w'→(fun w':World=>w'.cell? ⟨B0,0,none⟩=some (.int .i64 s.p.n)∧w'.cell? ⟨B0,1,none⟩=some (.int .i64 s.p.ins)∧w'.cell? ⟨B0,2,none⟩=some (.int .i64 s.p.outs)∧w'.cell? ⟨B0,3,none⟩=some (.slice ca s.p.cs.length cc)∧w'.cell? ⟨B0,4,none⟩=some (.int .i64 s.p.an)∧w'.cell? ⟨B0,5,none⟩=some (.slice sa s.p.st.length sc)∧w'.cell? ⟨B0,6,none⟩=some (.int .i64 s.p.rounds)∧w'.cell? ⟨B0,7,none⟩=some (.int .i64 s.tn)∧w'.cell? ⟨B0,8,none⟩=some (.slice ta s.tab.length tc)∧w'.cell? ⟨B0,9,none⟩=some (.slice xa s.ex.length xc)∧w'.cell? ⟨B1,0,none⟩=some (.int .i64 r)∧w'.cell? ⟨B1,1,none⟩=some (.int .i64 f)∧w'.cell? ⟨B1,2,none⟩=some (.int .i64 t)∧w'.cell? (adr a4 a)=some (.int .i64 ya)∧w'.cell? (adr a4 b)=some (.int .i64 ya)) w'):=zhd fun w' hw=>⟨(R0.ext hw).zc 0 rfl,(R0.ext hw).zc 1 rfl,(R0.ext hw).zc 2 rfl,(R0.ext hw).zc 3 rfl,(R0.ext hw).zc 4 rfl,(R0.ext hw).zc 5 rfl,(R0.ext hw).zc 6 rfl,(R0.ext hw).zc 7 rfl,(R0.ext hw).zc 8 rfl,(R0.ext hw).zc 9 rfl,(R1.ext hw).zc 0 rfl,(R1.ext hw).zc 1 rfl,(R1.ext hw).zc 2 rfl,zi ca4 hw,zi cb4 hw⟩;clear hB0 hB1 R0 R1 ex KE3 ca4 cb4 ba bb yx y0 y1';go_upto_region 18 with fail;rw[←HBB.out.2,←HBB.out.1];have y1:=zb wr.heap.size wr 1;refine zC (fun w':World=>w'.cell? ⟨B0,0,none⟩=some (.int .i64 s.p.n)∧w'.cell? ⟨B0,1,none⟩=some (.int .i64 s.p.ins)∧w'.cell? ⟨B0,2,none⟩=some (.int .i64 s.p.outs)∧w'.cell? ⟨B0,3,none⟩=some (.slice ca s.p.cs.length cc)∧w'.cell? ⟨B0,4,none⟩=some (.int .i64 s.p.an)∧w'.cell? ⟨B0,5,none⟩=some (.slice sa s.p.st.length sc)∧w'.cell? ⟨B0,6,none⟩=some (.int .i64 s.p.rounds)∧w'.cell? ⟨B0,7,none⟩=some (.int .i64 s.tn)∧w'.cell? ⟨B0,8,none⟩=some (.slice ta s.tab.length tc)∧w'.cell? ⟨B0,9,none⟩=some (.slice xa s.ex.length xc)∧w'.cell? ⟨B1,0,none⟩=some (.int .i64 r)∧w'.cell? ⟨B1,1,none⟩=some (.int .i64 f)∧w'.cell? ⟨B1,2,none⟩=some (.int .i64 t)∧w'.cell? (adr a4 a)=some (.int .i64 ya)∧w'.cell? (adr a4 b)=some (.int .i64 ya)) (fun i=>false) (by kernel_rfl) ?_ (fun hHeld=>?_)
     ·exact KL.out _ y1
     refine zt 0 hHeld ?_;refine zt 1 hHeld ?_;refine zt 2 hHeld ?_;refine zt 3 hHeld ?_;refine zt 4 hHeld ?_;refine zt 5 hHeld ?_;refine zt 6 hHeld ?_;refine zt 7 hHeld ?_;refine zt 8 hHeld ?_;refine zt 9 hHeld ?_;refine zt 10 hHeld ?_;refine zt 11 hHeld ?_;refine zt 12 hHeld ?_;refine zt 13 hHeld ?_;refine zt 14 hHeld ?_;refine zt 15 hHeld ?_;refine zt 16 hHeld ?_;refine zt 17 hHeld ?_;refine zt 18 hHeld ?_;refine zt 19 hHeld ?_;refine zt 20 hHeld ?_;refine zt 21 hHeld ?_;refine zo 22 (fun K hK=>?_)
     (go_simp;go_at_call 76;refine (KE2.out _ y1).mono ?_;rintro _ v9 ⟨_,rfl,hb9,rfl⟩;have y9:=za y1 hb9;clear hb9)
     refine zk hK (KL.out _ y9) (fun hHeld=>?_);clear hK K;refine zt 23 hHeld ?_;refine zt 24 hHeld ?_;refine zx (by kernel_rfl) ?_ _;clear hHeld KL KE2 dy dyy qa qb;have ex:=za HEX.out y9;have R0:=HR0.out.ext y9;have R1:=HR1.out.ext y9;rw[HBB.out.2,HBB.out.1];clear HEX HR0 HR1 y9 y1 HBB;cases z with
     | true=>
      have HE2:=zhd (HNX.out (HPD.out.2 fun _ _=>rfl));clear HPD HNX HNO hy0;go_wp2;go_roundw
      case rel=>exact ⟨b+1,by omega,by go_num,HE2,ex,R0,R1⟩
      case measure=>simp[intOf];omega
     | false=>
      have RE:Hid (q=18):=zhd (by rw[HV1.out,HNO.out fun h=>(by have:=HPD.out.1 h hy0 rfl;cases this)];rfl);clear HPD HNX HNO hy0;go_wp2;go_ret;exact .mk ex (zm RE.out.symm)
  have hi:=HI.out.ext ex;have qk:∀W:World,(Instr.indexAt 36 (.slice a4 n c4) (.int .i64 k)).run Tryz.prog W=.ok (.pointer (some (adr a4 k))) W:=fun W=>by rw[HNL.out];exact (show Ints S4 _ (.slice a4 sy.length c4) sy by rw[←HNL.out];exact hi).idx (by rw[←HNL.out];exact hlt) W
  have ck:=hi.cellN (k:=k) (by rw[←HNL.out];exact hlt);have bk:=World.block_lt_of_cell? _ _ ck;have HSF:=zhd (HSFD.out k);have KS2:=zhd (KS1.out k (by have:=HNM.out;omega));obtain ⟨y,hy⟩:=zn (nth sy k);obtain ⟨b,hbb⟩:=zn (sndB s.tab cl r.toNat f.toNat k);rw[←hy]at ck HSF;rw[←hbb]at KS2 HSF;clear hy hbb hi;go_wp2_with fail;refine (KS2.out _ ex).mono ?_;rintro _ w3 ⟨_,rfl,hb,rfl⟩;replace R0:=R0.ext hb;replace R1:=R1.ext hb;replace ex:=za ex hb;clear hb KS2 ck bk qk t0 t1 t2 t3 t4 t5 t6 t7 t8 t9 l0 p0 p1 p2 l1;by_cases hy0:0≤y
  ·have dy:decide (0≤y)=true:=decide_eq_true hy0;have dl:decide (y< -1)=false:=decide_eq_false (by omega);cases b with
   | false=>
    rw[if_neg (by rw[dy];intro h;cases h.1)]at HSF;clear hy0;have RE:Hid (q=2):=zhd (by rw[HV.out,if_neg (by rw[HST.out.stop (HSF.out) (by decide) hlt];decide)]);clear HV HSF HST;go_wp2;go_ret;exact .mk ex (zm RE.out.symm)
   | true=>
   by_cases hg':1048576<y
   ·have dg:decide (1048576<y)=true:=decide_eq_true hg';rw[if_neg (by omega)]at HSF;clear hy0 hg';have RE:Hid (q=2):=zhd (by rw[HV.out,if_neg (by rw[HST.out.stop (HSF.out) (by decide) hlt];decide)]);clear HV HSF HST;go_wp2;go_ret;exact .mk ex (zm RE.out.symm)
   ·have dg:decide (1048576<y)=false:=decide_eq_false hg';rw[if_pos ⟨dy,by omega,by omega⟩]at HSF;clear hy0 hg';have HZ2:=zhd (HST.out.next HSF.out);clear HSF HST;go_wp2;go_roundw
    case rel=>exact ⟨k+1,by omega,by go_num,HZ2,ex,R0,R1⟩
    case measure=>simp[intOf];omega
  ·have dy:decide (0≤y)=false:=decide_eq_false hy0;have dg:decide (1048576<y)=false:=decide_eq_false (by omega);cases b with
   | true=>
    rw[if_neg (by rw[dy];intro h;cases h.1)]at HSF;clear hy0;have RE:Hid (q=2):=zhd (by rw[HV.out,if_neg (by rw[HST.out.stop (HSF.out) (by decide) hlt];decide)]);clear HV HSF HST;go_wp2;go_ret;exact .mk ex (zm RE.out.symm)
   | false=>
   by_cases hg':y< -1
   ·have dl:decide (y< -1)=true:=decide_eq_true hg';rw[if_neg (by omega)]at HSF;clear hy0 hg';have RE:Hid (q=2):=zhd (by rw[HV.out,if_neg (by rw[HST.out.stop (HSF.out) (by decide) hlt];decide)]);clear HV HSF HST;go_wp2;go_ret;exact .mk ex (zm RE.out.symm)
   ·have dl:decide (y< -1)=false:=decide_eq_false hg';rw[if_pos ⟨dy,by omega,by omega⟩]at HSF;clear hy0 hg';have HZ2:=zhd (HST.out.next HSF.out);clear HSF HST;go_wp2;go_roundw
    case rel=>exact ⟨k+1,by omega,by go_num,HZ2,ex,R0,R1⟩
    case measure=>simp[intOf];omega
end Go.Proofs.YtiabbjolepnjkaaGreat
