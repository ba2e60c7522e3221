/- Part of the proof that the laws answer true for every input. -/
import Derived.Test.YtfjlhjkjjbiliaaGreatPXa42
import Derived.Test.YtfjlhjkjjbiliaaGreatPXa41
import Derived.Test.YtfjlhjkjjbiliaaGreatPXa39
import Derived.Test.YtfjlhjkjjbiliaaGreatPXa28
set_option linter.unusedSimpArgs false
set_option linter.unnecessarySimpa false
set_option linter.unusedVariables false
set_option maxRecDepth 100000
set_option maxHeartbeats 40000000
namespace Go.Proofs.YtfjlhjkjjbiliaaGreat
open Go.RowKit
attribute [local go_sem ↓] Go.wp_at_zero Go.wp_at_succ
theorem zcU {S:Nat→Prop} {w:World} {a:Option Addr} {cap:Nat} {l:List Int} (h:Ints S w (.slice a l.length cap) l) (h1:0<l.length):
  ∃a' cap',(∀W:World,(Instr.slice 36 (.slice a l.length cap) (some (.int .i64 1)) none none).run Tryz.prog W=.ok (.slice a' (l.length - 1) cap') W)∧Ints S w (.slice a' (l.length - 1) cap') (l.drop 1):=by
 obtain ⟨i,hi,hz,h2,hz3⟩:=info_parts zD
 obtain ⟨a0,cap0,e,had,hl,hm,hc,hf⟩:=h
 simp only[Value.slice.injEq,true_and]at e
 obtain ⟨rfl,rfl⟩:=e
 have hE:Tryz.prog.elem 36=3:=by simp[Program.elem,Tryz.underlying36]
 rcases had with ⟨h0,_⟩ | ⟨b,off,rfl,hb,hs⟩
 ·omega
 refine ⟨if l.length=1∧cap=1 then some ⟨b,off,none⟩ else if cap=1 then some ⟨b,off,none⟩ else some ⟨b,off+1,none⟩,cap - 1,fun W=>?_,?_⟩
 ·rw[run_slice_l (w:=W) 36 _ _ _ (by rw[hE];exact Tryz.underlying36) .i64 1 (by omega) (by omega),hE]
  by_cases e:cap=1<;>simp[sizeOf,typeInfo,hi,h2,Result.andThen,sliced,Addr.add,e]
 ·have hd:(l.drop 1).length=l.length - 1:=by simp
  refine ⟨_,_,by rw[hd],?_,by omega,by omega,fun j hj=>?_,fun y hy=>hf y (List.mem_of_mem_drop hy)⟩
  ·by_cases e:cap=1
   ·rw[if_pos e,ite_self];exact .inr ⟨b,off,rfl,hb,hs⟩
   ·rw[if_neg e,if_neg (fun h=>e h.2)];exact .inr ⟨b,off+1,rfl,hb,hs⟩
  ·rw[hd]at hj
   rw[if_neg (fun h=>by omega),if_neg (by omega)]
   have:=hc (j+1) (by omega)
   rw[zS]at this
   rw[zS,show off+1+j=off+(j+1) by omega,this]
   cases l with
   | nil=>simp at h1
   | cons a l=>simp[nth]
theorem zdp {T:List (List Int)} {ch:List Int} {x:Nat} {o:Int} {l:List Int} {k:Nat} (h:l.length≤k):outP T ch x o (l.drop k)=endB ch x o:=by
 rw[List.drop_eq_nil_of_le h];rfl
theorem Qa {S S3:Nat→Prop} {w:World} {v vch vl:Value} {s:SysF} {ch l:List Int} (u' x':Int) (h:SysV S w v s) (hf:PFew s.p) (h2:Ints S w vch ch) (h3:Ints S3 w vl l) (hm:s.tab.length≤120):
  Calls Tryz.prog 22 #[v,.agg #[vch],.int .i64 u',.int .i64 x',vl] w (Post w fun _ r=>r=.int .i64 (aprE s ch u' x' l)):=by
 have KP:Hid (∀W,Below w.heap.size w W→Calls Tryz.prog 41 #[v,.agg #[vch],.int .i64 u',.int .i64 x'] W (Post W (PairR W.heap.size S s ch u' x'))):=zhd fun W hW=>YK u' x' (h.ext hW) hf (h2.ext hW) hm
 have HQ:=zhd (zgo s ch u' x' l)
 have HI:Hid (∀k,inE s.tab.length l k=if nth l k<0∨(s.tab.length:Int)≤nth l k then 6 else 0):=zhd fun k=>rfl
 have HG:Hid (pairE s ch u' x'=0→∃u x:Nat,u'=u∧x'=x∧u<s.tab.length∧x<s.tab.length∧TabOK s.N s.K s.tab):=zhd fun h0=>by
  obtain ⟨hr0,hu1,hu2,hx1,hx2,_,_⟩:=Zv h0
  exact ⟨u'.toNat,x'.toNat,by omega,by omega,by omega,by omega,(zY h hr0).1.tab⟩
 obtain ⟨r,hr⟩:∃r,r=aprE s ch u' x' l:=⟨_,rfl⟩
 rw[←hr]at HQ ⊢
 obtain ⟨vc,vs,vt,vx,rfl,hc,hs,ht,hx⟩:=h
 obtain ⟨ca,cc,rfl,_⟩:=hc.form
 obtain ⟨sa,sc,rfl,_⟩:=hs.form
 obtain ⟨ta,tc,rfl,_⟩:=ht.form
 obtain ⟨xa,xc,rfl,_⟩:=hx.form
 obtain ⟨_,_,hee2,tad,_⟩:=ht.form2
 cases hee2
 obtain ⟨i0,hi,hz⟩:=zE zJ
 have HQV:=zhd (zC Tryz.underlying30 hi hz tad)
 have HTV:=zhd ht
 obtain ⟨a2,c2,rfl,_⟩:=h2.form
 obtain ⟨a3,c3,rfl,_⟩:=h3.form
 have HQI:Hid (∀k,k<l.length→∀W:World,(Instr.indexAt 36 (.slice a3 l.length c3) (.int .i64 k)).run Tryz.prog W=.ok (.pointer (some (adr a3 k))) W):=zhd fun k hk W=>h3.idx hk W
 have HC:Hid (∀k,k<l.length→w.cell? (adr a3 k)=some (.int .i64 (nth l k))):=zhd fun k hk=>h3.cellN hk
 have HTL:Hid (0<l.length→∃a' c',(∀W:World,(Instr.slice 36 (.slice a3 l.length c3) (some (.int .i64 1)) none none).run Tryz.prog W=.ok (.slice a' (l.length - 1) c') W)∧Ints S3 w (.slice a' (l.length - 1) c') (l.drop 1)):=zhd fun h0=>zcU h3 h0
 have ex:=zg (ze w (.cells #[.int .i64 s.p.n,.int .i64 s.p.ins,.int .i64 s.p.outs,.slice ca s.p.cs.length cc,.int .i64 s.p.an,.slice sa s.p.st.length sc,.int .i64 s.p.rounds,.int .i64 s.tn,.slice ta s.tab.length tc,.slice xa s.ex.length xc] 35)) (.cells #[.slice a2 ch.length c2] 38)
 have R0:=(zh w [.int .i64 s.p.n,.int .i64 s.p.ins,.int .i64 s.p.outs,.slice ca s.p.cs.length cc,.int .i64 s.p.an,.slice sa s.p.st.length sc,.int .i64 s.p.rounds,.int .i64 s.tn,.slice ta s.tab.length tc,.slice xa s.ex.length xc] 35).alloc (.cells #[.slice a2 ch.length c2] 38)
 have R1:=zh (w.alloc (.cells #[.int .i64 s.p.n,.int .i64 s.p.ins,.int .i64 s.p.outs,.slice ca s.p.cs.length cc,.int .i64 s.p.an,.slice sa s.p.st.length sc,.int .i64 s.p.rounds,.int .i64 s.tn,.slice ta s.tab.length tc,.slice xa s.ex.length xc] 35)) [.slice a2 ch.length c2] 38
 rw[World.size_alloc]at R1
 clear hc hs ht hx h2 h3 hr hf hi hz tad
 go_enter Tryz.func22,Tryz.ntmps22
 have t0:=R0.zc 0 rfl
 have t1:=R0.zc 1 rfl
 have t2:=R0.zc 2 rfl
 have t3:=R0.zc 3 rfl
 have t4:=R0.zc 4 rfl
 have t5:=R0.zc 5 rfl
 have t6:=R0.zc 6 rfl
 have t7:=R0.zc 7 rfl
 have t8:=R0.zc 8 rfl
 have t9:=R0.zc 9 rfl
 have l0:=R0.lt
 have r0:=R1.zc 0 rfl
 have l1:=R1.lt
 go_wp2_with fail
 refine (KP.out _ ex).mono ?_
 rintro _ w1 ⟨_,rfl,hb,hO⟩
 replace R0:=R0.ext hb
 replace R1:=R1.ext hb
 replace ex:=zb ex hb
 clear hb KP t0 t1 t2 t3 t4 t5 t6 t7 t8 t9 l0 r0 l1
 rcases hO with ⟨h0,g,rfl,hSc⟩ | ⟨h0,rfl⟩
 case inr=>
  have RE:=zhd (HQ.out.trans (if_neg h0))
  obtain ⟨e,hee⟩:∃e,e=pairE s ch u' x':=⟨_,rfl⟩
  rw[←hee]at RE h0 ⊢
  have d0:(e !=0)=true:=by simp[h0]
  clear h0 HQ HG hee HTV HQV HTL
  go_wp2
  go_ret
  exact .mk ex (zk RE.out.symm)
 have HQ1:=zhd (HQ.out.trans (if_pos h0))
 obtain ⟨u,x,rfl,rfl,hu,hx,htb⟩:=HG.out h0
 rw[Int.toNat_natCast,Int.toNat_natCast]at HQ1
 have HTB:=zhd htb
 have HSc:Hid (∃Am,ScnV Am w1 g s ch):=zhd ⟨_,hSc⟩
 have d0:((0:Int) !=0)=false:=rfl
 obtain ⟨A,hA⟩:∃A,A=aprB s.tab ch u x l:=⟨_,rfl⟩
 rw[←hA]at HQ1
 clear h0 HQ HG htb hSc R1
 by_cases h1:l.length=0
 ·have RE:=zhd (HQ1.out.trans (if_pos h1))
  have d1:((l.length:Int)==0)=true:=by simp[h1]
  clear h1 HQ1 HTV HQV HTL hA
  go_wp2
  go_ret
  exact .mk ex (zk RE.out.symm)
 have HQ2:=zhd (HQ1.out.trans (if_neg h1))
 have d1:((l.length:Int)==0)=false:=by rw[beq_eq_false_iff_ne];omega
 clear HQ1
 by_cases h7:7<l.length
 ·have RE:=zhd (HQ2.out.trans (if_pos h7))
  have d2:decide ((7:Int)<(l.length:Int))=true:=decide_eq_true (by omega)
  have d2':decide (7<l.length)=true:=decide_eq_true h7
  clear h1 h7 HQ2 HTV HQV HTL hA
  go_wp2
  go_ret
  exact .mk ex (zk RE.out.symm)
 have HQ3:=zhd (HQ2.out.trans (if_neg h7))
 have d2:decide ((7:Int)<(l.length:Int))=false:=decide_eq_false (by omega)
 have d2':decide (7<l.length)=false:=decide_eq_false h7
 have hl7:l.length≤7:=by omega
 have hl0:0<l.length:=by omega
 clear HQ2 h1 h7
 obtain ⟨a4,c4,qs,ht4⟩:=HTL.out hl0
 have hdl:(l.drop 1).length=l.length - 1:=by simp
 have HQT:Hid (∀k,k<l.length - 1→∀W:World,(Instr.indexAt 36 (.slice a4 (l.length - 1) c4) (.int .i64 k)).run Tryz.prog W=.ok (.pointer (some (adr a4 k))) W):=zhd fun k hk W=>by
  have:=ht4.idx (k:=k) (by rw[hdl];exact hk) W
  exact this
 have HCT:Hid (∀k,k<l.length - 1→w.cell? (adr a4 k)=some (.int .i64 (nth l (k+1)))):=zhd fun k hk=>by
  have:=ht4.cellN (k:=k) (by rw[hdl];exact hk)
  rw[this]
  simp[nth,Nat.add_comm]
 obtain ⟨n1,hn1⟩:∃n,n=l.length - 1:=⟨_,rfl⟩
 have HN1:Hid (l.length=n1+1):=zhd (by omega)
 have hn7:n1≤6:=by omega
 rw[←hn1]at HQT HCT qs
 have HA:=zhd hA
 clear hn1 HTL ht4 hdl hA
 go_wp2
 clear d0 d1 d2 d2'
 go_loopw [14,41] (fun _ i wr=>∃k:Nat,k≤l.length∧i=.int .i64 k∧Hid (Zeros (inE s.tab.length l) k)∧Below w.heap.size w wr∧Row wr w.heap.size 35 [.int .i64 s.p.n,.int .i64 s.p.ins,.int .i64 s.p.outs,.slice ca s.p.cs.length cc,.int .i64 s.p.an,.slice sa s.p.st.length sc,.int .i64 s.p.rounds,.int .i64 s.tn,.slice ta s.tab.length tc,.slice xa s.ex.length xc]∧Hid (∃Am,ScnV Am wr g s ch)) (fun _ i _=>l.length - (intOf i).toNat)
 case atStart=>exact ⟨0,Nat.zero_le _,rfl,zhd (Zeros.zero _),ex,R0,HSc⟩
 case round=>
  clear ex R0 HSc
  obtain ⟨k,hk,rfl,HZ,ex,R0,HSc⟩:=hrel
  by_cases hlt:k<l.length
  case neg=>
   obtain rfl:k=l.length:=by omega
   have HQ4:=zhd (HQ3.out.trans (if_pos (HZ.out.done (Nat.le_refl _))))
   have hrg:=zfx HZ.out
   have HRG:=zhd hrg
   obtain ⟨z0,hz0,hz0n⟩:=hrg 0 hl0
   have q0:∀W:World,(Instr.indexAt 36 (.slice a3 l.length c3) (.int .i64 0)).run Tryz.prog W=.ok (.pointer (some (adr a3 0))) W:=HQI.out 0 hl0
   have c0:=HC.out 0 hl0
   rw[hz0]at c0
   replace c0:=zj c0 ex
   have b0:=World.block_lt_of_cell? _ _ c0
   have hd0:l=(z0:Int)::l.drop 1:=by have:=Z3 hl0;rw[List.drop_zero,hz0]at this;exact this
   have HA2:Hid (A=if (z0:Int)=(x:Int) then outP s.tab ch x u (l.drop 1) else if (z0:Int)=(u:Int) then outP s.tab ch u x (l.drop 1) else false):=zhd (by
    have e:aprB s.tab ch u x ((z0:Int)::l.drop 1)=(if (z0:Int)=(x:Int) then outP s.tab ch x u (l.drop 1) else if (z0:Int)=(u:Int) then outP s.tab ch u x (l.drop 1) else false):=rfl
    rw[←hd0]at e;rw[HA.out];exact e)
   clear HQ3 hlt HZ hd0 hrg HI HA hk
   by_cases he:z0=x
   ·have d1:((z0:Int)==(x:Int))=true:=by rw[he];simp
    have HA0:Hid (A=outP s.tab ch z0 u (l.drop (0+1))):=zhd (by rw[he];exact HA2.out.trans (if_pos (by rw[he])))
    clear HA2 he
    go_wp2
    clear q0 c0 b0 d1
    go_loopw [15,16,17,18,70] (fun ov _ _ _ iv wr=>∃(j z:Nat) (o:Int),j+1≤l.length∧iv=.int .i64 j∧ov=.int .i64 o∧(-1≤o∧o<s.tab.length)∧(nth l j=(z:Int)∧z<s.tab.length)∧Hid (A=outP s.tab ch z o (l.drop (j+1)))∧Below w.heap.size w wr∧Row wr w.heap.size 35 [.int .i64 s.p.n,.int .i64 s.p.ins,.int .i64 s.p.outs,.slice ca s.p.cs.length cc,.int .i64 s.p.an,.slice sa s.p.st.length sc,.int .i64 s.p.rounds,.int .i64 s.tn,.slice ta s.tab.length tc,.slice xa s.ex.length xc]∧Hid (∃Am,ScnV Am wr g s ch)) (fun _ _ _ _ iv _=>l.length - (intOf iv).toNat)
    case atStart=>exact ⟨0,z0,u,by omega,rfl,rfl,⟨by omega,by omega⟩,⟨hz0,hz0n⟩,HA0,ex,R0,HSc⟩
    case round=>
     clear ex R0 HSc HA0
     obtain ⟨j,z,o,hj,rfl,rfl,ho,⟨hz,hzn⟩,HO,ex,R0,HSc⟩:=hrel
     obtain ⟨Am,hAm⟩:=HSc.out
     have qj:=HQI.out j (by omega)
     have cj:=HC.out j (by omega)
     rw[hz]at cj
     by_cases hlt:j<n1
     case neg=>
      have hml:j+1=l.length:=by have:=HN1.out;omega
      have DW:IntKind.i64.wrap ((l.length:Int) - 1)=(j:Int):=by rw[IntWalk.i64_left,IntWalk.wrap64_in _ (by omega)];omega
      have HO2:Hid (A=endB ch z o):=zhd (by rw[HO.out,zdp (by omega)])
      replace cj:=zj cj ex
      have bj:=World.block_lt_of_cell? _ _ cj
      have KE:=zhd (fun W (hW:Below wr.heap.size wr W)=>xM (hAm.ext hW) hzn ho.2)
      have l0:=R0.lt
      obtain ⟨b,hb⟩:∃b,b=endB ch z o:=⟨_,rfl⟩
      rw[←hb]at KE HO2
      clear HO hz hml hb hAm HSc
      go_wp2_with fail
      refine (KE.out _ (.refl _ _)).mono ?_
      rintro _ w9 ⟨_,rfl,hb9,rfl⟩
      replace ex:=zb ex hb9
      clear hb9 KE R0 l0 cj bj
      cases b with
      | true=>
       have RE:Hid (r=0):=zhd (HQ4.out.trans (if_pos HO2.out))
       go_wp2
       go_ret
       exact .mk ex (zk RE.out.symm)
      | false=>
       have RE:Hid (r=18):=zhd (HQ4.out.trans (if_neg (by rw[HO2.out];decide)))
       go_wp2
       go_ret
       exact .mk ex (zk RE.out.symm)
     obtain ⟨y,hy,hyn⟩:=HRG.out (j+1) (by have:=HN1.out;omega)
     have qt:=HQT.out j hlt
     have ct:=HCT.out j hlt
     rw[hy]at ct
     replace ct:=zj ct ex
     replace cj:=zj cj ex
     have bt:=World.block_lt_of_cell? _ _ ct
     have bj:=World.block_lt_of_cell? _ _ cj
     have HO2:Hid (A=(decide (0≤o)&&(hrsB s.tab y z&&outP s.tab ch y (repT s.tab y z o) (l.drop (j+1+1))))):=zhd (by rw[HO.out,zfG (by have:=HN1.out;omega) hy])
     have HY:=zhd hy
     have t8:=R0.zc 8 rfl
     have l0:=R0.lt
     have yb:=fun n=>zb ex (zf wr.heap.size wr n)
     have y0:=fun n=>R0.ext (zf wr.heap.size wr n)
     have ys:=fun n=>zhd (hAm.ext (zf wr.heap.size wr n))
     by_cases ho0:o<0
     ·have d1:decide (o<0)=true:=decide_eq_true ho0
      have HA1:Hid (A=false):=zhd (by rw[HO2.out,decide_eq_false (by omega),Bool.false_and])
      have RE:Hid (r=18):=zhd (HQ4.out.trans (if_neg (by rw[HA1.out];decide)))
      clear ho HO HO2 hz hy hAm HSc ys y0 R0 ex
      go_wp2
      go_quiet (fail)
      go_wp2
      go_ret
      exact .mk (yb _) (zk RE.out.symm)
     have d1:decide (o<0)=false:=decide_eq_false ho0
     have HO3:Hid (A=(hrsB s.tab y z&&outP s.tab ch y (repT s.tab y z o) (l.drop (j+1+1)))):=zhd (by rw[HO2.out,decide_eq_true (show 0≤o by omega),Bool.true_and])
     have HRL:=zhd (xO (T:=s.tab) (u:=y) (w:=z) (b:=o))
     have HWO:Hid (WF o):=zhd (WF.small (by omega))
     have hTV:=HTV.out.ext ex
     have zq:=HQV.out z hzn
     have yq:=HQV.out y hyn
     obtain ⟨e0,p5,_⟩:=yP HTB.out hzn
     obtain ⟨cz,_⟩:=hTV.nums (k:=z) hzn (by decide)
     obtain ⟨cy0,cyr⟩:=hTV.nums (k:=y) hyn (by decide)
     have cy:=cyr (3+prcT s.tab z) (by omega)
     rw[e0]at cz
     have HH:Hid (hrsB s.tab y z=decide (nth (nthL s.tab y) (3+prcT s.tab z)=(z:Int))):=zhd rfl
     obtain ⟨hv,hhv⟩:∃hv,hv=nth (nthL s.tab y) (3+prcT s.tab z):=⟨_,rfl⟩
     rw[←hhv]at cy HH
     obtain ⟨pz,hpz⟩:∃pz,pz=prcT s.tab z:=⟨_,rfl⟩
     rw[←hpz]at cz cy p5
     have xi:=yQ (adr ta (y * 8)).block ((adr ta (y * 8)).off+3) p5
     rw[←Nat.add_assoc]at cy
     have bz:=World.block_lt_of_cell? _ _ cz
     have by0:=World.block_lt_of_cell? _ _ cy0
     clear HO HO2 hz hy cyr cy0 hhv hpz e0 hTV R0 ex hAm HSc
     by_cases hh:hv=(z:Int)
     case neg=>
      have d2:(hv !=(z:Int))=true:=by simp[hh]
      have HA1:Hid (A=false):=zhd (by rw[HO3.out,HH.out,decide_eq_false hh,Bool.false_and])
      have RE:Hid (r=18):=zhd (HQ4.out.trans (if_neg (by rw[HA1.out];decide)))
      clear ho HO3 HH hh
      go_wp2
      go_quiet (fail)
      go_wp2
      go_ret
      exact .mk (yb _) (zk RE.out.symm)
     have d2:(hv !=(z:Int))=false:=by simp[hh]
     have HO4:Hid (A=outP s.tab ch y (repT s.tab y z o) (l.drop (j+1+1))):=zhd (by rw[HO3.out,HH.out,decide_eq_true hh,Bool.true_and])
     have KR:=zhd (fun n W (hW:Below (wr.drewN n).heap.size (wr.drewN n) W)=>Zy (b:=o) ((ys n).out.ext hW) hyn hzn HWO.out)
     obtain ⟨o2,ho2⟩:∃o2,o2=repT s.tab y z o:=⟨_,rfl⟩
     rw[←ho2]at KR HO4 HRL
     have HYN:=zhd hyn
     clear ho HO3 HH hh ho2
     go_wp2
     go_quiet (fail)
     clear cy cz bz by0 xi zq yq d1 d2 qt ct bt qj cj bj t8 l0
     go_wp2_with fail
     refine (KR.out _ _ (.refl _ _)).mono ?_
     rintro _ w9 ⟨_,rfl,hb9,rfl⟩
     have ex:=zb (yb _) hb9
     have R0:=(y0 _).ext hb9
     have HSc:Hid (∃Am,ScnV Am w9 g s ch):=zhd ⟨Am,(ys _).out.ext hb9⟩
     clear hb9 KR yb y0 ys
     go_wp2
     go_roundw
     case rel=>exact ⟨j+1,y,o2,by have:=HN1.out;omega,by go_num,rfl,HRL.out,⟨HY.out,HYN.out⟩,HO4,ex,R0,HSc⟩
     case measure=>simp[intOf];omega
   have d1:((z0:Int)==(x:Int))=false:=by rw[beq_eq_false_iff_ne];omega
   have HA1:=zhd (HA2.out.trans (if_neg (by omega)))
   by_cases he2:z0=u
   ·have d2:((z0:Int)==(u:Int))=true:=by rw[he2];simp
    have HA0:Hid (A=outP s.tab ch z0 x (l.drop (0+1))):=zhd (by rw[he2];exact HA1.out.trans (if_pos (by rw[he2])))
    clear HA2 HA1 he he2
    go_wp2
    clear q0 c0 b0 d1 d2
    go_loopw [15,16,17,18,70] (fun ov _ _ _ iv wr=>∃(j z:Nat) (o:Int),j+1≤l.length∧iv=.int .i64 j∧ov=.int .i64 o∧(-1≤o∧o<s.tab.length)∧(nth l j=(z:Int)∧z<s.tab.length)∧Hid (A=outP s.tab ch z o (l.drop (j+1)))∧Below w.heap.size w wr∧Row wr w.heap.size 35 [.int .i64 s.p.n,.int .i64 s.p.ins,.int .i64 s.p.outs,.slice ca s.p.cs.length cc,.int .i64 s.p.an,.slice sa s.p.st.length sc,.int .i64 s.p.rounds,.int .i64 s.tn,.slice ta s.tab.length tc,.slice xa s.ex.length xc]∧Hid (∃Am,ScnV Am wr g s ch)) (fun _ _ _ _ iv _=>l.length - (intOf iv).toNat)
    case atStart=>exact ⟨0,z0,x,by omega,rfl,rfl,⟨by omega,by omega⟩,⟨hz0,hz0n⟩,HA0,ex,R0,HSc⟩
    case round=>
     clear ex R0 HSc HA0
     obtain ⟨j,z,o,hj,rfl,rfl,ho,⟨hz,hzn⟩,HO,ex,R0,HSc⟩:=hrel
     obtain ⟨Am,hAm⟩:=HSc.out
     have qj:=HQI.out j (by omega)
     have cj:=HC.out j (by omega)
     rw[hz]at cj
     by_cases hlt:j<n1
     case neg=>
      have hml:j+1=l.length:=by have:=HN1.out;omega
      have DW:IntKind.i64.wrap ((l.length:Int) - 1)=(j:Int):=by rw[IntWalk.i64_left,IntWalk.wrap64_in _ (by omega)];omega
      have HO2:Hid (A=endB ch z o):=zhd (by rw[HO.out,zdp (by omega)])
      replace cj:=zj cj ex
      have bj:=World.block_lt_of_cell? _ _ cj
      have KE:=zhd (fun W (hW:Below wr.heap.size wr W)=>xM (hAm.ext hW) hzn ho.2)
      have l0:=R0.lt
      obtain ⟨b,hb⟩:∃b,b=endB ch z o:=⟨_,rfl⟩
      rw[←hb]at KE HO2
      clear HO hz hml hb hAm HSc
      go_wp2_with fail
      refine (KE.out _ (.refl _ _)).mono ?_
      rintro _ w9 ⟨_,rfl,hb9,rfl⟩
      replace ex:=zb ex hb9
      clear hb9 KE R0 l0 cj bj
      cases b with
      | true=>
       have RE:Hid (r=0):=zhd (HQ4.out.trans (if_pos HO2.out))
       go_wp2
       go_ret
       exact .mk ex (zk RE.out.symm)
      | false=>
       have RE:Hid (r=18):=zhd (HQ4.out.trans (if_neg (by rw[HO2.out];decide)))
       go_wp2
       go_ret
       exact .mk ex (zk RE.out.symm)
     obtain ⟨y,hy,hyn⟩:=HRG.out (j+1) (by have:=HN1.out;omega)
     have qt:=HQT.out j hlt
     have ct:=HCT.out j hlt
     rw[hy]at ct
     replace ct:=zj ct ex
     replace cj:=zj cj ex
     have bt:=World.block_lt_of_cell? _ _ ct
     have bj:=World.block_lt_of_cell? _ _ cj
     have HO2:Hid (A=(decide (0≤o)&&(hrsB s.tab y z&&outP s.tab ch y (repT s.tab y z o) (l.drop (j+1+1))))):=zhd (by rw[HO.out,zfG (by have:=HN1.out;omega) hy])
     have HY:=zhd hy
     have t8:=R0.zc 8 rfl
     have l0:=R0.lt
     have yb:=fun n=>zb ex (zf wr.heap.size wr n)
     have y0:=fun n=>R0.ext (zf wr.heap.size wr n)
     have ys:=fun n=>zhd (hAm.ext (zf wr.heap.size wr n))
     by_cases ho0:o<0
     ·have d1:decide (o<0)=true:=decide_eq_true ho0
      have HA1:Hid (A=false):=zhd (by rw[HO2.out,decide_eq_false (by omega),Bool.false_and])
      have RE:Hid (r=18):=zhd (HQ4.out.trans (if_neg (by rw[HA1.out];decide)))
      clear ho HO HO2 hz hy hAm HSc ys y0 R0 ex
      go_wp2
      go_quiet (fail)
      go_wp2
      go_ret
      exact .mk (yb _) (zk RE.out.symm)
     have d1:decide (o<0)=false:=decide_eq_false ho0
     have HO3:Hid (A=(hrsB s.tab y z&&outP s.tab ch y (repT s.tab y z o) (l.drop (j+1+1)))):=zhd (by rw[HO2.out,decide_eq_true (show 0≤o by omega),Bool.true_and])
     have HRL:=zhd (xO (T:=s.tab) (u:=y) (w:=z) (b:=o))
     have HWO:Hid (WF o):=zhd (WF.small (by omega))
     have hTV:=HTV.out.ext ex
     have zq:=HQV.out z hzn
     have yq:=HQV.out y hyn
     obtain ⟨e0,p5,_⟩:=yP HTB.out hzn
     obtain ⟨cz,_⟩:=hTV.nums (k:=z) hzn (by decide)
     obtain ⟨cy0,cyr⟩:=hTV.nums (k:=y) hyn (by decide)
     have cy:=cyr (3+prcT s.tab z) (by omega)
     rw[e0]at cz
     have HH:Hid (hrsB s.tab y z=decide (nth (nthL s.tab y) (3+prcT s.tab z)=(z:Int))):=zhd rfl
     obtain ⟨hv,hhv⟩:∃hv,hv=nth (nthL s.tab y) (3+prcT s.tab z):=⟨_,rfl⟩
     rw[←hhv]at cy HH
     obtain ⟨pz,hpz⟩:∃pz,pz=prcT s.tab z:=⟨_,rfl⟩
     rw[←hpz]at cz cy p5
     have xi:=yQ (adr ta (y * 8)).block ((adr ta (y * 8)).off+3) p5
     rw[←Nat.add_assoc]at cy
     have bz:=World.block_lt_of_cell? _ _ cz
     have by0:=World.block_lt_of_cell? _ _ cy0
     clear HO HO2 hz hy cyr cy0 hhv hpz e0 hTV R0 ex hAm HSc
     by_cases hh:hv=(z:Int)
     case neg=>
      have d2:(hv !=(z:Int))=true:=by simp[hh]
      have HA1:Hid (A=false):=zhd (by rw[HO3.out,HH.out,decide_eq_false hh,Bool.false_and])
      have RE:Hid (r=18):=zhd (HQ4.out.trans (if_neg (by rw[HA1.out];decide)))
      clear ho HO3 HH hh
      go_wp2
      go_quiet (fail)
      go_wp2
      go_ret
      exact .mk (yb _) (zk RE.out.symm)
     have d2:(hv !=(z:Int))=false:=by simp[hh]
     have HO4:Hid (A=outP s.tab ch y (repT s.tab y z o) (l.drop (j+1+1))):=zhd (by rw[HO3.out,HH.out,decide_eq_true hh,Bool.true_and])
     have KR:=zhd (fun n W (hW:Below (wr.drewN n).heap.size (wr.drewN n) W)=>Zy (b:=o) ((ys n).out.ext hW) hyn hzn HWO.out)
     obtain ⟨o2,ho2⟩:∃o2,o2=repT s.tab y z o:=⟨_,rfl⟩
     rw[←ho2]at KR HO4 HRL
     have HYN:=zhd hyn
     clear ho HO3 HH hh ho2
     go_wp2
     go_quiet (fail)
     clear cy cz bz by0 xi zq yq d1 d2 qt ct bt qj cj bj t8 l0
     go_wp2_with fail
     refine (KR.out _ _ (.refl _ _)).mono ?_
     rintro _ w9 ⟨_,rfl,hb9,rfl⟩
     have ex:=zb (yb _) hb9
     have R0:=(y0 _).ext hb9
     have HSc:Hid (∃Am,ScnV Am w9 g s ch):=zhd ⟨Am,(ys _).out.ext hb9⟩
     clear hb9 KR yb y0 ys
     go_wp2
     go_roundw
     case rel=>exact ⟨j+1,y,o2,by have:=HN1.out;omega,by go_num,rfl,HRL.out,⟨HY.out,HYN.out⟩,HO4,ex,R0,HSc⟩
     case measure=>simp[intOf];omega
   have d2:((z0:Int)==(u:Int))=false:=by rw[beq_eq_false_iff_ne];omega
   have HA0:Hid (A=false):=zhd (HA1.out.trans (if_neg (by omega)))
   have RE:Hid (r=18):=zhd (HQ4.out.trans (if_neg (by rw[HA0.out];decide)))
   clear HA2 HA1 he he2
   go_wp2
   go_ret
   exact .mk ex (zk RE.out.symm)
  have q1:=HQI.out k hlt
  have c1:=zj (HC.out k hlt) ex
  have b1:=World.block_lt_of_cell? _ _ c1
  have HE:=zhd (HI.out k)
  have HST:Hid (∀u:Int,inE s.tab.length l k=u→u≠0→r=u):=zhd fun u hu hu0=>by
   have:=HZ.out.stop hu hu0 hlt
   rw[HQ3.out,if_neg (by rw[this];exact hu0),this]
  have HNX:Hid (inE s.tab.length l k=0→Zeros (inE s.tab.length l) (k+1)):=zhd fun h=>HZ.out.next h
  obtain ⟨xk,hxx⟩:∃x,x=nth l k:=⟨_,rfl⟩
  rw[←hxx]at c1 HE
  have t8:=R0.zc 8 rfl
  have l0:=R0.lt
  obtain ⟨Am,hAm⟩:=HSc.out
  clear hxx
  by_cases h1:xk<0
  ·have RE:=zhd (HST.out 6 (HE.out.trans (if_pos (.inl h1))) (by decide))
   have d1:decide (xk<0)=true:=decide_eq_true h1
   clear h1
   go_wp2
   go_ret
   exact .mk ex (zk RE.out.symm)
  have d1:decide (xk<0)=false:=decide_eq_false h1
  by_cases h2:(s.tab.length:Int)≤xk
  ·have RE:=zhd (HST.out 6 (HE.out.trans (if_pos (.inr h2))) (by decide))
   have d2:decide ((s.tab.length:Int)≤xk)=true:=decide_eq_true h2
   go_wp2
   go_ret
   exact .mk ex (zk RE.out.symm)
  have HZ2:=zhd (HNX.out (HE.out.trans (if_neg (fun h=>by omega))))
  have d2:decide ((s.tab.length:Int)≤xk)=false:=decide_eq_false h2
  go_wp2
  go_roundw
  case rel=>exact ⟨k+1,by omega,by go_num,HZ2,ex,R0,HSc⟩
  case measure=>simp[intOf];omega
end Go.Proofs.YtfjlhjkjjbiliaaGreat
namespace Go.Proofs.YtfjlhjkjjbiliaaGreat
def e52P:ProbD:=⟨2,2,2,[([0,0],[[0,0]],[]),([0,1],[[0,0]],[])],2,[[[2,1,3,0,0,0,0,0],[2,3,3,0,0,0,0,0]]],1⟩
def e52S:SysF:=e52P.full
def no52:List Int:=[-1, -1, -1, -1, -1, -1, -1, -1]
def on52:List Int:=[-1, -1, -1, -1, -1, -1,1, -1]
theorem zd1:buildE e52P=0:=by decide+kernel
theorem zda:FewP e52P:=⟨by refine ⟨by decide,fun k hk=>?_⟩;match k,hk with | 0,_=>exact ⟨by decide,⟨by decide,by decide⟩,⟨by decide,by decide⟩⟩ | 1,_=>exact ⟨by decide,⟨by decide,by decide⟩,⟨by decide,by decide⟩⟩ | k+2,h=>exact absurd h (by simp[e52P]),by decide+kernel,by decide,fun _=>.inl (by decide+kernel)⟩
theorem zdC:e52S.tab.length=8:=by decide+kernel
theorem zf7:ruleE e52S no52=0:=by decide+kernel
theorem zdd:ruleE e52S on52=0:=by decide+kernel
theorem zgt:quoL e52S no52=[0,1,2,3,2,1,3,2]:=by decide+kernel
theorem zgu:quoL e52S on52=[0,1,2,3,2,4,5,2]:=by decide+kernel
theorem zgg:sizA e52S on52=6:=by decide+kernel
theorem zgk:pairE e52S on52 1 5=0:=by decide+kernel
theorem zf6:pairE e52S on52 2 4=0:=by decide+kernel
theorem zd5:disL e52S.tab on52 e52S.K 1 5=[1,3]:=by decide+kernel
theorem zdn:disL e52S.tab on52 e52S.K 2 4=[]:=by decide+kernel
theorem zgD:aprE e52S on52 1 5 [1,3]=0:=by decide+kernel
theorem zgI:aprE e52S no52 1 5 [1,3]=18:=by decide+kernel
theorem zgF:verQ e52S on52 [0,1,2,3,2,4,5,2]=0:=by decide+kernel
theorem zgH:verQ e52S on52 [0,1,2,3,2,1,3,2]=18:=by decide+kernel
end Go.Proofs.YtfjlhjkjjbiliaaGreat
namespace Go.Proofs.YtfjlhjkjjbiliaaGreat
open Go.RowKit
attribute [local go_sem ↓] Go.wp_at_zero Go.wp_at_succ
theorem flat25 {n:Nat}:∀{xs:List (List Value)} {j i:Nat},(∀c∈xs,c.length=n)→j<xs.length→i<n→xs.flatten[j * n+i]? =(xs.getD j [])[i]?
 | [],j,i,_,hj,_=>by simp at hj
 | c::xs,0,i,h,_,hi=>by
  have:=h c (by simp)
  rw[List.flatten_cons,List.getElem?_append_left (by omega)]
  simp
 | c::xs,j+1,i,h,hj,hi=>by
  have hc:=h c (by simp)
  have:=flat25 (xs:=xs) (j:=j) (i:=i) (fun d hd=>h d (List.mem_cons_of_mem _ hd)) (by simpa using hj) hi
  rw[List.flatten_cons,List.getElem?_append_right (by rw[hc,Nat.add_mul];omega),hc,show (j+1) * n+i - n=j * n+i by rw[Nat.add_mul];omega,this]
  simp
theorem zb7 {α:Type} {K:Kd α} {S:Nat→Prop} {w:World} {b:Nat} {e:TypeId} {l:List α} (xs:List (List Value)) (R:Row w b e xs.flatten) (hS:S b) (hl:l.length=xs.length) (hs:∀c∈xs,c.length=K.size) (hm:l.length≤100000) (hr:∀j (h:j<l.length),K.rd S w (xs.getD j []) l[j]):Sl K S w (.slice (some ⟨b,0,none⟩) l.length l.length) l:=by
 refine ⟨_,_,rfl,.inr ⟨b,0,rfl,R.lt,hS⟩,Nat.le_refl _,⟨by unfold maxLen;omega,by omega⟩,fun j hj=>⟨xs.getD j [],fun i hi=>?_,hr j hj⟩⟩
 rw[zS,Nat.zero_add]
 have h1:=flat25 hs (show j<xs.length by omega) hi
 cases h2:(xs.getD j [])[i]? with
 | none=>
  rw[List.getElem?_eq_none_iff]at h2
  have:=hs (xs.getD j []) (by rw[List.getD_eq_getElem?_getD,List.getElem?_eq_getElem (by omega)];exact List.getElem_mem _)
  omega
 | some u=>exact R.cell (by rw[h1,h2])
theorem pbuild25 {S:Nat→Prop} {w:World} {vc vs:Value} {p:ProbD} (hc:Sl kCase S w vc p.cs) (hs:Sl (kSl (kFlat 8)) S w vs p.st) (hf:PFew p) (h0:buildE p=0):
  Calls Tryz.prog 49 #[.agg #[.int .i64 p.n,.int .i64 p.ins,.int .i64 p.outs,vc,.int .i64 p.an,vs,.int .i64 p.rounds]] w (Post w fun w' r=>∃v,r=.tuple #[v,.int .i64 0]∧SysV (fun b=>(S b∧b<w.heap.size)∨w.heap.size≤b) w' v p.full):=by
 obtain ⟨h1,h2⟩:=Yp h0
 obtain ⟨N,hok⟩:=probOK h1
 obtain ⟨h3,h4⟩:=hf.small h1 h2
 obtain ⟨n,ins,outs,cs,an,st,rounds⟩:=p
 obtain ⟨K,hK⟩:∃K:Nat,rounds=K:=⟨rounds.toNat,by have:=hok.r;dsimp only at this;omega⟩
 have e1:=hok.n
 have e2:=hok.an
 dsimp only at e1 e2
 subst e1 e2 hK
 exact Qx hc.block hs.block hok hf.cp h1 h3 (by dsimp only at h4;omega)
theorem lists25 {S:Nat→Prop} {w:World} {b:Nat} {e:TypeId} {v:Value} {l:List Int} (R:Row w b e [v]) (hS:S b) (h:Ints S w v l):Lists S w (.slice (some ⟨b,0,none⟩) 1 1) [l]:=by
 refine ⟨_,_,rfl,.inr ⟨b,0,rfl,R.lt,hS⟩,Nat.le_refl _,by unfold maxLen;simp,fun j hj=>?_⟩
 obtain rfl:j=0:=by simpa using hj
 exact ⟨v,R.zc 0 rfl,h⟩
def mv25:List (List Int):=[[2,1,3,0,0,0,0,0],[2,3,3,0,0,0,0,0]]
theorem zdw {k:Nat} (hk:k<2):mv25.take (k+1)=mv25.take k++[[2,nth [1,3] k,3,0,0,0,0,0]]:=by
 have:k=0∨k=1:=by omega
 rcases this with rfl | rfl<;>rfl
theorem nth13 (k:Nat):WF (nth [1,3] k):=by
 match k with
 | 0=>exact WF.small (by decide)
 | 1=>exact WF.small (by decide)
 | k+2=>exact WF.small (by simp[nth])
theorem Yd (w:World):Calls Tryz.prog 30 #[] w (Post w fun w' r=>∃v,r=.tuple #[v,.bool true]∧SysV TT w' v e52S):=by
 have RS:=(zh w [.int .i64 0,.int .i64 0,.int .i64 0,.slice none 0 0,.int .i64 0,.slice none 0 0,.int .i64 0,.int .i64 0,.slice none 0 0,.slice none 0 0] 35).alloc (.cells #[.int .i64 1,.int .i64 3] 3)
 have RB:=zh (w.alloc (.cells #[.int .i64 0,.int .i64 0,.int .i64 0,.slice none 0 0,.int .i64 0,.slice none 0 0,.int .i64 0,.int .i64 0,.slice none 0 0,.slice none 0 0] 35)) [.int .i64 1,.int .i64 3] 3
 have ex:=zg (ze w (.cells #[.int .i64 0,.int .i64 0,.int .i64 0,.slice none 0 0,.int .i64 0,.slice none 0 0,.int .i64 0,.int .i64 0,.slice none 0 0,.slice none 0 0] 35)) (.cells #[.int .i64 1,.int .i64 3] 3)
 rw[World.size_alloc]at RB
 obtain ⟨w1,hw1⟩:∃w1,w1=((w.alloc (.cells #[.int .i64 0,.int .i64 0,.int .i64 0,.slice none 0 0,.int .i64 0,.slice none 0 0,.int .i64 0,.int .i64 0,.slice none 0 0,.slice none 0 0] 35)).alloc (.cells #[.int .i64 1,.int .i64 3] 3)):=⟨_,rfl⟩
 rw[←hw1]at RS RB ex
 have HW1:=zhd hw1
 obtain ⟨la,hla⟩:∃la:Option Addr,la=some ⟨w.heap.size+1,0,none⟩:=⟨_,rfl⟩
 have HI:Hid (Ints TT w1 (.slice la 2 2) [1,3]):=zhd (by rw[hla];exact (Row.ints (l:=[1,3]) RB (by decide) (by intro x hx;simp at hx;unfold WF;omega)).mono fun _ _=>trivial)
 have HLA:=zhd hla
 have HS1:Hid (w.heap.size<w1.heap.size):=zhd RS.lt
 have HRS:=zhd RS
 have HEX:=zhd ex
 clear hw1 hla RS RB ex
 go_enter Tryz.func30,Tryz.ntmps30
 go_wp2
 rw[←HW1.out,←HLA.out]
 clear HW1 HLA
 go_loopw [2,4,10] (fun q _ i wr=>∃k:Nat,k≤2∧i=.int .i64 k∧Below w1.heap.size w1 wr∧OwnK (kFlat 8) 118 w1.heap.size (fun _=>False) wr q (mv25.take k)) (fun _ _ i _=>2 - (intOf i).toNat)
 case atStart=>exact ⟨0,by decide,rfl,.refl _ _,OwnK.nil _ _ _ _ _⟩
 case round=>
  obtain ⟨k,hk,rfl,hb,hO⟩:=hrel
  by_cases hlt:k<2
  ·have hi:=HI.out.ext hb
   have q1:∀W:World,(Instr.indexAt 36 (.slice la 2 2) (.int .i64 k)).run Tryz.prog W=.ok (.pointer (some (adr la k))) W:=hi.idx (k:=k) hlt
   have c1:=hi.cellN (k:=k) hlt
   have HWF:=zhd (nth13 k)
   have HT:=zhd (zdw hlt)
   obtain ⟨y,hy⟩:∃y,y=nth [1,3] k:=⟨_,rfl⟩
   rw[←hy]at c1 HWF HT
   have bl:=World.block_lt_of_cell? _ _ c1
   have HLN:Hid ((mv25.take k).length=k):=zhd (by rw[List.length_take];exact Nat.min_eq_left (by simpa[mv25] using hk))
   obtain ⟨acc,hacc⟩:∃acc,acc=mv25.take k:=⟨_,rfl⟩
   rw[←hacc]at hO HT HLN
   obtain ⟨oa,oc,rfl,_⟩:=hO.form
   have HRD:Hid ((kFlat 8).rd (fun b=>False∧(Value.slice oa acc.length oc).ownBlock≠some b) wr [.int .i64 2,.int .i64 y,.int .i64 3,.int .i64 0,.int .i64 0,.int .i64 0,.int .i64 0,.int .i64 0] [2,y,3,0,0,0,0,0]):=zhd ⟨rfl,rfl,fun z hz=>by
    simp only[List.mem_cons,List.not_mem_nil,or_false]at hz
    have:=HWF.out
    unfold WF at *
    omega⟩
   have HO:=zhd hO
   have HB:=zhd hb
   have HBY:Hid ((acc.length+1) * 64≤140737488355328):=zhd (by rw[HLN.out];omega)
   have HBN:Hid (acc.length<9223372036854775807):=zhd (by rw[HLN.out];omega)
   have HBS:=zhd hb.size
   clear hy hacc hO hb hi
   go_wp2_with (at_builtin;refine yz (K:=kFlat 8) (w:=wr) (S:=fun _=>False) (base:=w1.heap.size) (v:=.slice oa acc.length oc) (l:=acc) rfl (.tmp 14) (.tmp 20) 112 rfl 118 _ 64 Tryz.underlying112 Qt rfl (by decide) rfl HO.out (cs:=[.int .i64 2,.int .i64 y,.int .i64 3,.int .i64 0,.int .i64 0,.int .i64 0,.int .i64 0,.int .i64 0]) rfl HRD.out HBY.out HBN.out HBS.out ?_;intro g7 c7 w7 ho hb7 hag hg7)
   have hO7:OwnK (kFlat 8) 118 w1.heap.size (fun _=>False) w7 (.slice (some ⟨g7,0,none⟩) (acc.length+1) c7) (mv25.take (k+1)):=by rw[HT.out];exact ho
   have HO7:=zhd hO7
   have ex7:=HB.out.trans hb7
   clear ho hag hg7 hb7 c1 q1 bl hO7
   go_wp2
   go_roundw
   case rel=>exact ⟨k+1,hlt,by go_num,ex7,HO7.out⟩
   case measure=>simp[intOf];omega
  obtain rfl:k=2:=by omega
  have hO2:OwnK (kFlat 8) 118 w1.heap.size (fun _=>False) wr u2 mv25:=hO
  obtain ⟨oa,oc,hq,hpos,_⟩:=hO2.form
  replace hq:u2=.slice oa 2 oc:=hq
  obtain ⟨g,rfl⟩:=hpos (by decide)
  subst hq
  have hm0:=hO2.sl (by decide)
  have hs1:=HS1.out
  have hm:Sl (kFlat 8) (fun b=>b≠w.heap.size) wr (.slice (some ⟨g,0,none⟩) 2 oc) mv25:=hm0.mono fun b hb=>by
   rcases hb with h | h
   ·exact h.elim
   ·show b≠w.heap.size;omega
  have hsz:=hb.size
  have B0:=((((((((zh wr [.int .i64 0,.int .i64 0] 3).alloc (.cells #[.int .i64 0,.int .i64 0] 3)).alloc (.cells #[.slice (some ⟨wr.heap.size+1,0,none⟩) 2 2] 36)).alloc (.cells #[.int .i64 0,.int .i64 1] 3)).alloc (.cells #[.int .i64 0,.int .i64 0] 3)).alloc (.cells #[.slice (some ⟨wr.heap.size+1+1+1+1,0,none⟩) 2 2] 36)).alloc (.cells #[.slice (some ⟨wr.heap.size,0,none⟩) 2 2,.slice (some ⟨wr.heap.size+1+1,0,none⟩) 1 1,.slice none 0 0,.slice (some ⟨wr.heap.size+1+1+1,0,none⟩) 2 2,.slice (some ⟨wr.heap.size+1+1+1+1+1,0,none⟩) 1 1,.slice none 0 0] 120)).alloc (.cells #[.int .i64 2,.int .i64 2,.int .i64 2,.slice (some ⟨wr.heap.size+1+1+1+1+1+1,0,none⟩) 2 2] 24)).alloc (.cells #[.slice (some ⟨g,0,none⟩) 2 oc] 112)
  have B1:=(((((((zh (wr.alloc (.cells #[.int .i64 0,.int .i64 0] 3)) [.int .i64 0,.int .i64 0] 3).alloc (.cells #[.slice (some ⟨wr.heap.size+1,0,none⟩) 2 2] 36)).alloc (.cells #[.int .i64 0,.int .i64 1] 3)).alloc (.cells #[.int .i64 0,.int .i64 0] 3)).alloc (.cells #[.slice (some ⟨wr.heap.size+1+1+1+1,0,none⟩) 2 2] 36)).alloc (.cells #[.slice (some ⟨wr.heap.size,0,none⟩) 2 2,.slice (some ⟨wr.heap.size+1+1,0,none⟩) 1 1,.slice none 0 0,.slice (some ⟨wr.heap.size+1+1+1,0,none⟩) 2 2,.slice (some ⟨wr.heap.size+1+1+1+1+1,0,none⟩) 1 1,.slice none 0 0] 120)).alloc (.cells #[.int .i64 2,.int .i64 2,.int .i64 2,.slice (some ⟨wr.heap.size+1+1+1+1+1+1,0,none⟩) 2 2] 24)).alloc (.cells #[.slice (some ⟨g,0,none⟩) 2 oc] 112)
  have B2:=((((((zh ((wr.alloc (.cells #[.int .i64 0,.int .i64 0] 3)).alloc (.cells #[.int .i64 0,.int .i64 0] 3)) [.slice (some ⟨wr.heap.size+1,0,none⟩) 2 2] 36).alloc (.cells #[.int .i64 0,.int .i64 1] 3)).alloc (.cells #[.int .i64 0,.int .i64 0] 3)).alloc (.cells #[.slice (some ⟨wr.heap.size+1+1+1+1,0,none⟩) 2 2] 36)).alloc (.cells #[.slice (some ⟨wr.heap.size,0,none⟩) 2 2,.slice (some ⟨wr.heap.size+1+1,0,none⟩) 1 1,.slice none 0 0,.slice (some ⟨wr.heap.size+1+1+1,0,none⟩) 2 2,.slice (some ⟨wr.heap.size+1+1+1+1+1,0,none⟩) 1 1,.slice none 0 0] 120)).alloc (.cells #[.int .i64 2,.int .i64 2,.int .i64 2,.slice (some ⟨wr.heap.size+1+1+1+1+1+1,0,none⟩) 2 2] 24)).alloc (.cells #[.slice (some ⟨g,0,none⟩) 2 oc] 112)
  have B3:=(((((zh (((wr.alloc (.cells #[.int .i64 0,.int .i64 0] 3)).alloc (.cells #[.int .i64 0,.int .i64 0] 3)).alloc (.cells #[.slice (some ⟨wr.heap.size+1,0,none⟩) 2 2] 36)) [.int .i64 0,.int .i64 1] 3).alloc (.cells #[.int .i64 0,.int .i64 0] 3)).alloc (.cells #[.slice (some ⟨wr.heap.size+1+1+1+1,0,none⟩) 2 2] 36)).alloc (.cells #[.slice (some ⟨wr.heap.size,0,none⟩) 2 2,.slice (some ⟨wr.heap.size+1+1,0,none⟩) 1 1,.slice none 0 0,.slice (some ⟨wr.heap.size+1+1+1,0,none⟩) 2 2,.slice (some ⟨wr.heap.size+1+1+1+1+1,0,none⟩) 1 1,.slice none 0 0] 120)).alloc (.cells #[.int .i64 2,.int .i64 2,.int .i64 2,.slice (some ⟨wr.heap.size+1+1+1+1+1+1,0,none⟩) 2 2] 24)).alloc (.cells #[.slice (some ⟨g,0,none⟩) 2 oc] 112)
  have B4:=((((zh ((((wr.alloc (.cells #[.int .i64 0,.int .i64 0] 3)).alloc (.cells #[.int .i64 0,.int .i64 0] 3)).alloc (.cells #[.slice (some ⟨wr.heap.size+1,0,none⟩) 2 2] 36)).alloc (.cells #[.int .i64 0,.int .i64 1] 3)) [.int .i64 0,.int .i64 0] 3).alloc (.cells #[.slice (some ⟨wr.heap.size+1+1+1+1,0,none⟩) 2 2] 36)).alloc (.cells #[.slice (some ⟨wr.heap.size,0,none⟩) 2 2,.slice (some ⟨wr.heap.size+1+1,0,none⟩) 1 1,.slice none 0 0,.slice (some ⟨wr.heap.size+1+1+1,0,none⟩) 2 2,.slice (some ⟨wr.heap.size+1+1+1+1+1,0,none⟩) 1 1,.slice none 0 0] 120)).alloc (.cells #[.int .i64 2,.int .i64 2,.int .i64 2,.slice (some ⟨wr.heap.size+1+1+1+1+1+1,0,none⟩) 2 2] 24)).alloc (.cells #[.slice (some ⟨g,0,none⟩) 2 oc] 112)
  have B5:=(((zh (((((wr.alloc (.cells #[.int .i64 0,.int .i64 0] 3)).alloc (.cells #[.int .i64 0,.int .i64 0] 3)).alloc (.cells #[.slice (some ⟨wr.heap.size+1,0,none⟩) 2 2] 36)).alloc (.cells #[.int .i64 0,.int .i64 1] 3)).alloc (.cells #[.int .i64 0,.int .i64 0] 3)) [.slice (some ⟨wr.heap.size+1+1+1+1,0,none⟩) 2 2] 36).alloc (.cells #[.slice (some ⟨wr.heap.size,0,none⟩) 2 2,.slice (some ⟨wr.heap.size+1+1,0,none⟩) 1 1,.slice none 0 0,.slice (some ⟨wr.heap.size+1+1+1,0,none⟩) 2 2,.slice (some ⟨wr.heap.size+1+1+1+1+1,0,none⟩) 1 1,.slice none 0 0] 120)).alloc (.cells #[.int .i64 2,.int .i64 2,.int .i64 2,.slice (some ⟨wr.heap.size+1+1+1+1+1+1,0,none⟩) 2 2] 24)).alloc (.cells #[.slice (some ⟨g,0,none⟩) 2 oc] 112)
  have B6:=((zh ((((((wr.alloc (.cells #[.int .i64 0,.int .i64 0] 3)).alloc (.cells #[.int .i64 0,.int .i64 0] 3)).alloc (.cells #[.slice (some ⟨wr.heap.size+1,0,none⟩) 2 2] 36)).alloc (.cells #[.int .i64 0,.int .i64 1] 3)).alloc (.cells #[.int .i64 0,.int .i64 0] 3)).alloc (.cells #[.slice (some ⟨wr.heap.size+1+1+1+1,0,none⟩) 2 2] 36)) [.slice (some ⟨wr.heap.size,0,none⟩) 2 2,.slice (some ⟨wr.heap.size+1+1,0,none⟩) 1 1,.slice none 0 0,.slice (some ⟨wr.heap.size+1+1+1,0,none⟩) 2 2,.slice (some ⟨wr.heap.size+1+1+1+1+1,0,none⟩) 1 1,.slice none 0 0] 120).alloc (.cells #[.int .i64 2,.int .i64 2,.int .i64 2,.slice (some ⟨wr.heap.size+1+1+1+1+1+1,0,none⟩) 2 2] 24)).alloc (.cells #[.slice (some ⟨g,0,none⟩) 2 oc] 112)
  have B7:=(zh (((((((wr.alloc (.cells #[.int .i64 0,.int .i64 0] 3)).alloc (.cells #[.int .i64 0,.int .i64 0] 3)).alloc (.cells #[.slice (some ⟨wr.heap.size+1,0,none⟩) 2 2] 36)).alloc (.cells #[.int .i64 0,.int .i64 1] 3)).alloc (.cells #[.int .i64 0,.int .i64 0] 3)).alloc (.cells #[.slice (some ⟨wr.heap.size+1+1+1+1,0,none⟩) 2 2] 36)).alloc (.cells #[.slice (some ⟨wr.heap.size,0,none⟩) 2 2,.slice (some ⟨wr.heap.size+1+1,0,none⟩) 1 1,.slice none 0 0,.slice (some ⟨wr.heap.size+1+1+1,0,none⟩) 2 2,.slice (some ⟨wr.heap.size+1+1+1+1+1,0,none⟩) 1 1,.slice none 0 0] 120)) [.int .i64 2,.int .i64 2,.int .i64 2,.slice (some ⟨wr.heap.size+1+1+1+1+1+1,0,none⟩) 2 2] 24).alloc (.cells #[.slice (some ⟨g,0,none⟩) 2 oc] 112)
  have B8:=zh ((((((((wr.alloc (.cells #[.int .i64 0,.int .i64 0] 3)).alloc (.cells #[.int .i64 0,.int .i64 0] 3)).alloc (.cells #[.slice (some ⟨wr.heap.size+1,0,none⟩) 2 2] 36)).alloc (.cells #[.int .i64 0,.int .i64 1] 3)).alloc (.cells #[.int .i64 0,.int .i64 0] 3)).alloc (.cells #[.slice (some ⟨wr.heap.size+1+1+1+1,0,none⟩) 2 2] 36)).alloc (.cells #[.slice (some ⟨wr.heap.size,0,none⟩) 2 2,.slice (some ⟨wr.heap.size+1+1,0,none⟩) 1 1,.slice none 0 0,.slice (some ⟨wr.heap.size+1+1+1,0,none⟩) 2 2,.slice (some ⟨wr.heap.size+1+1+1+1+1,0,none⟩) 1 1,.slice none 0 0] 120)).alloc (.cells #[.int .i64 2,.int .i64 2,.int .i64 2,.slice (some ⟨wr.heap.size+1+1+1+1+1+1,0,none⟩) 2 2] 24)) [.slice (some ⟨g,0,none⟩) 2 oc] 112
  have e2:Below wr.heap.size wr (((((((((wr.alloc (.cells #[.int .i64 0,.int .i64 0] 3)).alloc (.cells #[.int .i64 0,.int .i64 0] 3)).alloc (.cells #[.slice (some ⟨wr.heap.size+1,0,none⟩) 2 2] 36)).alloc (.cells #[.int .i64 0,.int .i64 1] 3)).alloc (.cells #[.int .i64 0,.int .i64 0] 3)).alloc (.cells #[.slice (some ⟨wr.heap.size+1+1+1+1,0,none⟩) 2 2] 36)).alloc (.cells #[.slice (some ⟨wr.heap.size,0,none⟩) 2 2,.slice (some ⟨wr.heap.size+1+1,0,none⟩) 1 1,.slice none 0 0,.slice (some ⟨wr.heap.size+1+1+1,0,none⟩) 2 2,.slice (some ⟨wr.heap.size+1+1+1+1+1,0,none⟩) 1 1,.slice none 0 0] 120)).alloc (.cells #[.int .i64 2,.int .i64 2,.int .i64 2,.slice (some ⟨wr.heap.size+1+1+1+1+1+1,0,none⟩) 2 2] 24)).alloc (.cells #[.slice (some ⟨g,0,none⟩) 2 oc] 112)):=zg (zg (zg (zg (zg (zg (zg (zg (ze wr _) _) _) _) _) _) _) _) _
  simp only[World.size_alloc]at B1 B2 B3 B4 B5 B6 B7 B8
  have HSR:=zhd (HRS.out.ext (zb hb e2))
  have hm2:=hm.ext e2
  have HEX2:=zhd (zb HEX.out (zb hb e2))
  obtain ⟨w2,hw2⟩:∃w2,w2=(((((((((wr.alloc (.cells #[.int .i64 0,.int .i64 0] 3)).alloc (.cells #[.int .i64 0,.int .i64 0] 3)).alloc (.cells #[.slice (some ⟨wr.heap.size+1,0,none⟩) 2 2] 36)).alloc (.cells #[.int .i64 0,.int .i64 1] 3)).alloc (.cells #[.int .i64 0,.int .i64 0] 3)).alloc (.cells #[.slice (some ⟨wr.heap.size+1+1+1+1,0,none⟩) 2 2] 36)).alloc (.cells #[.slice (some ⟨wr.heap.size,0,none⟩) 2 2,.slice (some ⟨wr.heap.size+1+1,0,none⟩) 1 1,.slice none 0 0,.slice (some ⟨wr.heap.size+1+1+1,0,none⟩) 2 2,.slice (some ⟨wr.heap.size+1+1+1+1+1,0,none⟩) 1 1,.slice none 0 0] 120)).alloc (.cells #[.int .i64 2,.int .i64 2,.int .i64 2,.slice (some ⟨wr.heap.size+1+1+1+1+1+1,0,none⟩) 2 2] 24)).alloc (.cells #[.slice (some ⟨g,0,none⟩) 2 oc] 112)):=⟨_,rfl⟩
  rw[←hw2]at B0 B1 B2 B3 B4 B5 B6 B7 B8 hm2 HSR HEX2
  have HW2:=zhd hw2
  have i0:=(Row.ints (l:=[0,0]) B0 (by decide) (by intro x hx;simp at hx;unfold WF;omega)).mono (S':=(fun b=>b≠w.heap.size)) (fun _ h=>by omega)
  have i1:=(Row.ints (l:=[0,0]) B1 (by decide) (by intro x hx;simp at hx;unfold WF;omega)).mono (S':=(fun b=>b≠w.heap.size)) (fun _ h=>by omega)
  have i3:=(Row.ints (l:=[0,1]) B3 (by decide) (by intro x hx;simp at hx;unfold WF;omega)).mono (S':=(fun b=>b≠w.heap.size)) (fun _ h=>by omega)
  have i4:=(Row.ints (l:=[0,0]) B4 (by decide) (by intro x hx;simp at hx;unfold WF;omega)).mono (S':=(fun b=>b≠w.heap.size)) (fun _ h=>by omega)
  have j2:=lists25 B2 (show (fun b=>b≠w.heap.size) _ by dsimp only;omega) i1
  have j5:=lists25 B5 (show (fun b=>b≠w.heap.size) _ by dsimp only;omega) i4
  have jn:=fun W=>Lists.nil (fun b=>b≠w.heap.size) W
  have kc:=zb7 (K:=kCase) (S:=(fun b=>b≠w.heap.size)) (l:=e52P.cs) [[.slice (some ⟨wr.heap.size,0,none⟩) 2 2,.slice (some ⟨wr.heap.size+1+1,0,none⟩) 1 1,.slice none 0 0],[.slice (some ⟨wr.heap.size+1+1+1,0,none⟩) 2 2,.slice (some ⟨wr.heap.size+1+1+1+1+1,0,none⟩) 1 1,.slice none 0 0]] B6 (show (fun b=>b≠w.heap.size) _ by dsimp only;omega) rfl (by simp[kCase]) (by decide) (fun j hj=>match j,hj with | 0,_=>⟨_,_,_,rfl,i0,j2,jn _⟩ | 1,_=>⟨_,_,_,rfl,i3,j5,jn _⟩ | j+2,h=>absurd h (by simp[e52P]))
  have ks:=zb7 (K:=kSl (kFlat 8)) (S:=(fun b=>b≠w.heap.size)) (l:=e52P.st) [[.slice (some ⟨g,0,none⟩) 2 oc]] B8 (show (fun b=>b≠w.heap.size) _ by dsimp only;omega) rfl (by simp[kSl]) (by decide) (fun j hj=>match j,hj with | 0,_=>⟨_,rfl,hm2⟩ | j+1,h=>absurd h (by simp[e52P]))
  have KB:Hid (Calls Tryz.prog 49 #[.agg #[.int .i64 2,.int .i64 2,.int .i64 2,.slice (some ⟨wr.heap.size+1+1+1+1+1+1,0,none⟩) 2 2,.int .i64 2,.slice (some ⟨wr.heap.size+1+1+1+1+1+1+1+1,0,none⟩) 1 1,.int .i64 1]] w2 (Post w2 fun w' r=>∃v,r=.tuple #[v,.int .i64 0]∧SysV (fun b=>(b≠w.heap.size∧b<w2.heap.size)∨w2.heap.size≤b) w' v e52P.full)):=zhd (pbuild25 (p:=e52P) kc ks zda.few zd1)
  clear B0 B1 B2 B3 B4 B5 B6 B7 B8 i0 i1 i3 i4 j2 j5 jn kc ks hm2 hO hO2 hm0 hm hw2 e2 hpos
  go_wp2_with fail
  rw[←HW2.out]
  refine KB.out.mono ?_
  rintro _ w3 ⟨_,rfl,hb3,bv,rfl,hsy0⟩
  have RS:=HSR.out
  have hlt2:=RS.lt
  have hsy:SysV (fun b=>b≠w.heap.size) w3 bv e52S:=hsy0.mono fun b hb=>by rcases hb with h | h<;>omega
  replace RS:=RS.ext hb3
  have ex3:=zb HEX2.out hb3
  clear hsy0 KB HW2 HSR HEX2 HEX HRS HI HS1 hb hs1 hsz
  have h:=hsy
  obtain ⟨vc,vs,vt,vx,rfl,hc,hs,ht,hx⟩:=h
  obtain ⟨ca,cc,rfl,_⟩:=hc.form
  obtain ⟨sa,sc,rfl,_⟩:=hs.form
  obtain ⟨ta,tc,rfl,_⟩:=ht.form
  obtain ⟨xa,xc,rfl,_⟩:=hx.form2
  have hxe:Value.slice ta e52S.tab.length tc=.slice ta 8 tc:=by rw[zdC]
  rw[hxe]at hsy ⊢
  have e4:=ze w3 (.cells #[.int .i64 e52S.p.n,.int .i64 e52S.p.ins,.int .i64 e52S.p.outs,.slice ca e52S.p.cs.length cc,.int .i64 e52S.p.an,.slice sa e52S.p.st.length sc,.int .i64 e52S.p.rounds,.int .i64 e52S.tn,.slice ta 8 tc,.slice xa e52S.ex.length xc] 35)
  have HSY:=zhd (hsy.ext e4)
  have R7:=zh w3 [.int .i64 e52S.p.n,.int .i64 e52S.p.ins,.int .i64 e52S.p.outs,.slice ca e52S.p.cs.length cc,.int .i64 e52S.p.an,.slice sa e52S.p.st.length sc,.int .i64 e52S.p.rounds,.int .i64 e52S.tn,.slice ta 8 tc,.slice xa e52S.ex.length xc] 35
  have hw3:=RS.lt
  replace RS:=RS.alloc (.cells #[.int .i64 e52S.p.n,.int .i64 e52S.p.ins,.int .i64 e52S.p.outs,.slice ca e52S.p.cs.length cc,.int .i64 e52S.p.an,.slice sa e52S.p.st.length sc,.int .i64 e52S.p.rounds,.int .i64 e52S.tn,.slice ta 8 tc,.slice xa e52S.ex.length xc] 35)
  replace ex3:=zg ex3 (.cells #[.int .i64 e52S.p.n,.int .i64 e52S.p.ins,.int .i64 e52S.p.outs,.slice ca e52S.p.cs.length cc,.int .i64 e52S.p.an,.slice sa e52S.p.st.length sc,.int .i64 e52S.p.rounds,.int .i64 e52S.tn,.slice ta 8 tc,.slice xa e52S.ex.length xc] 35)
  clear hsy hc hs ht hx hxe e4 hb3 hlt2
  go_upto_region 9 with fail
  obtain ⟨w4,hw4⟩:∃w4,w4=w3.alloc (.cells #[.int .i64 e52S.p.n,.int .i64 e52S.p.ins,.int .i64 e52S.p.outs,.slice ca e52S.p.cs.length cc,.int .i64 e52S.p.an,.slice sa e52S.p.st.length sc,.int .i64 e52S.p.rounds,.int .i64 e52S.tn,.slice ta 8 tc,.slice xa e52S.ex.length xc] 35):=⟨_,rfl⟩
  obtain ⟨B7,hB7⟩:∃B7,B7=w3.heap.size:=⟨_,rfl⟩
  rw[←hw4]at R7 RS ex3 HSY
  rw[←hB7]at R7
  have hB7n:w.heap.size≠B7:=by omega
  rw[←hw4,←hB7]
  clear hw4 hB7
  have HRS:=zhd (RS.sets [(0,.int .i64 e52S.p.n),(1,.int .i64 e52S.p.ins),(2,.int .i64 e52S.p.outs),(3,.slice ca e52S.p.cs.length cc),(4,.int .i64 e52S.p.an),(5,.slice sa e52S.p.st.length sc),(6,.int .i64 e52S.p.rounds),(7,.int .i64 e52S.tn),(8,.slice ta 8 tc),(9,.slice xa e52S.ex.length xc)])
  have HBS:=zhd (zL (Nat.le_refl w.heap.size) [(0,.int .i64 e52S.p.n),(1,.int .i64 e52S.p.ins),(2,.int .i64 e52S.p.outs),(3,.slice ca e52S.p.cs.length cc),(4,.int .i64 e52S.p.an),(5,.slice sa e52S.p.st.length sc),(6,.int .i64 e52S.p.rounds),(7,.int .i64 e52S.tn),(8,.slice ta 8 tc),(9,.slice xa e52S.ex.length xc)] w4 ex3)
  have HAS:=zhd (zW w.heap.size [(0,.int .i64 e52S.p.n),(1,.int .i64 e52S.p.ins),(2,.int .i64 e52S.p.outs),(3,.slice ca e52S.p.cs.length cc),(4,.int .i64 e52S.p.an),(5,.slice sa e52S.p.st.length sc),(6,.int .i64 e52S.p.rounds),(7,.int .i64 e52S.tn),(8,.slice ta 8 tc),(9,.slice xa e52S.ex.length xc)] w4)
  have KEEP:Hid (∀w',Agree (fun b=>b≠w.heap.size) w4 w'→(fun w':World=>w'.cell? ⟨B7,0,none⟩=some (.int .i64 e52S.p.n)∧w'.cell? ⟨B7,1,none⟩=some (.int .i64 e52S.p.ins)∧w'.cell? ⟨B7,2,none⟩=some (.int .i64 e52S.p.outs)∧w'.cell? ⟨B7,3,none⟩=some (.slice ca e52S.p.cs.length cc)∧w'.cell? ⟨B7,4,none⟩=some (.int .i64 e52S.p.an)∧w'.cell? ⟨B7,5,none⟩=some (.slice sa e52S.p.st.length sc)∧w'.cell? ⟨B7,6,none⟩=some (.int .i64 e52S.p.rounds)∧w'.cell? ⟨B7,7,none⟩=some (.int .i64 e52S.tn)∧w'.cell? ⟨B7,8,none⟩=some (.slice ta 8 tc)∧w'.cell? ⟨B7,9,none⟩=some (.slice xa e52S.ex.length xc)) w'):=zhd fun w' hw=>⟨(R7.agree hw (Ne.symm hB7n)).zc 0 rfl,(R7.agree hw (Ne.symm hB7n)).zc 1 rfl,(R7.agree hw (Ne.symm hB7n)).zc 2 rfl,(R7.agree hw (Ne.symm hB7n)).zc 3 rfl,(R7.agree hw (Ne.symm hB7n)).zc 4 rfl,(R7.agree hw (Ne.symm hB7n)).zc 5 rfl,(R7.agree hw (Ne.symm hB7n)).zc 6 rfl,(R7.agree hw (Ne.symm hB7n)).zc 7 rfl,(R7.agree hw (Ne.symm hB7n)).zc 8 rfl,(R7.agree hw (Ne.symm hB7n)).zc 9 rfl⟩
  have l7:=R7.lt
  have d0:=RS.zc 0 rfl
  have d1:=RS.zc 1 rfl
  have d2:=RS.zc 2 rfl
  have d3:=RS.zc 3 rfl
  have d4:=RS.zc 4 rfl
  have d5:=RS.zc 5 rfl
  have d6:=RS.zc 6 rfl
  have d7:=RS.zc 7 rfl
  have d8:=RS.zc 8 rfl
  have d9:=RS.zc 9 rfl
  have f0:=RS.free 0
  have f1:=RS.free 1
  have f2:=RS.free 2
  have f3:=RS.free 3
  have f4:=RS.free 4
  have f5:=RS.free 5
  have f6:=RS.free 6
  have f7:=RS.free 7
  have f8:=RS.free 8
  have f9:=RS.free 9
  have l2:=RS.lt
  clear RS R7 hw3
  refine zF (fun w':World=>w'.cell? ⟨B7,0,none⟩=some (.int .i64 e52S.p.n)∧w'.cell? ⟨B7,1,none⟩=some (.int .i64 e52S.p.ins)∧w'.cell? ⟨B7,2,none⟩=some (.int .i64 e52S.p.outs)∧w'.cell? ⟨B7,3,none⟩=some (.slice ca e52S.p.cs.length cc)∧w'.cell? ⟨B7,4,none⟩=some (.int .i64 e52S.p.an)∧w'.cell? ⟨B7,5,none⟩=some (.slice sa e52S.p.st.length sc)∧w'.cell? ⟨B7,6,none⟩=some (.int .i64 e52S.p.rounds)∧w'.cell? ⟨B7,7,none⟩=some (.int .i64 e52S.tn)∧w'.cell? ⟨B7,8,none⟩=some (.slice ta 8 tc)∧w'.cell? ⟨B7,9,none⟩=some (.slice xa e52S.ex.length xc)) (fun i=>false) (by kernel_rfl) ?_ (fun hHeld=>?_)
  ·exact KEEP.out _ (.of_ext (zf w4.heap.size w4 1))
  refine za 0 (v:=?_) rfl (by kernel_rfl) (fun _ _ _ h=>h) (by rfl) ?hy0 hHeld ?r0
  case hy0=>(intro w hSw;(try dsimp only at hSw);go_simp;try with_reducible rfl)
  try simp only[Act.put,zsa,zsz,zss]
  refine za 1 (v:=?_) rfl (by kernel_rfl) (fun _ _ _ h=>h) (by rfl) ?hy1 hHeld ?r1
  case hy1=>(intro w hSw;(try dsimp only at hSw);go_simp;try with_reducible rfl)
  try simp only[Act.put,zsa,zsz,zss]
  refine za 2 (v:=?_) rfl (by kernel_rfl) (fun _ _ _ h=>h) (by rfl) ?hy2 hHeld ?r2
  case hy2=>(intro w hSw;(try dsimp only at hSw);go_simp;try with_reducible rfl)
  try simp only[Act.put,zsa,zsz,zss]
  refine za 3 (v:=?_) rfl (by kernel_rfl) (fun _ _ _ h=>h) (by rfl) ?hy3 hHeld ?r3
  case hy3=>(intro w hSw;(try dsimp only at hSw);go_simp;try with_reducible rfl)
  try simp only[Act.put,zsa,zsz,zss]
  refine za 4 (v:=?_) rfl (by kernel_rfl) (fun _ _ _ h=>h) (by rfl) ?hy4 hHeld ?r4
  case hy4=>(intro w hSw;(try dsimp only at hSw);go_simp;try with_reducible rfl)
  try simp only[Act.put,zsa,zsz,zss]
  refine za 5 (v:=?_) rfl (by kernel_rfl) (fun _ _ _ h=>h) (by rfl) ?hy5 hHeld ?r5
  case hy5=>(intro w hSw;(try dsimp only at hSw);go_simp;try with_reducible rfl)
  try simp only[Act.put,zsa,zsz,zss]
  refine za 6 (v:=?_) rfl (by kernel_rfl) (fun _ _ _ h=>h) (by rfl) ?hy6 hHeld ?r6
  case hy6=>(intro w hSw;(try dsimp only at hSw);go_simp;try with_reducible rfl)
  try simp only[Act.put,zsa,zsz,zss]
  refine za 7 (v:=?_) rfl (by kernel_rfl) (fun _ _ _ h=>h) (by rfl) ?hy7 hHeld ?r7
  case hy7=>(intro w hSw;(try dsimp only at hSw);go_simp;try with_reducible rfl)
  try simp only[Act.put,zsa,zsz,zss]
  refine za 8 (v:=?_) rfl (by kernel_rfl) (fun _ _ _ h=>h) (by rfl) ?hy8 hHeld ?r8
  case hy8=>(intro w hSw;(try dsimp only at hSw);go_simp;try with_reducible rfl)
  try simp only[Act.put,zsa,zsz,zss]
  refine za 9 (v:=?_) rfl (by kernel_rfl) (fun _ _ _ h=>h) (by rfl) ?hy9 hHeld ?r9
  case hy9=>(intro w hSw;(try dsimp only at hSw);go_simp;try with_reducible rfl)
  try simp only[Act.put,zsa,zsz,zss]
  refine zn 10 rfl (by kernel_rfl) (fun K hK=>?_)
  go_simp
  refine hK.out _ _ (fun _=>KEEP.out _ (HAS.out.trans (.of_ext (zf _ _ 1)))) (fun hHeld=>?_);replace hHeld:=hHeld rfl
  clear hK K
  try simp only[Act.put,zsa,zsz,zss]
  refine za 11 (v:=?_) rfl (by kernel_rfl) (fun _ _ _ h=>h) (by rfl) ?hy11 hHeld ?r11
  case hy11=>(intro w hSw;(try dsimp only at hSw);go_simp;try with_reducible rfl)
  try simp only[Act.put,zsa,zsz,zss]
  refine zy (by kernel_rfl) ?_ _
  clear hHeld KEEP d0 f0 d1 f1 d2 f2 d3 f3 d4 f4 d5 f5 d6 f6 d7 f7 d8 f8 d9 f9 l2 l7
  obtain ⟨W7,hW7⟩:∃W7,W7=sets w.heap.size [(0,.int .i64 e52S.p.n),(1,.int .i64 e52S.p.ins),(2,.int .i64 e52S.p.outs),(3,.slice ca e52S.p.cs.length cc),(4,.int .i64 e52S.p.an),(5,.slice sa e52S.p.st.length sc),(6,.int .i64 e52S.p.rounds),(7,.int .i64 e52S.tn),(8,.slice ta 8 tc),(9,.slice xa e52S.ex.length xc)] w4:=⟨_,rfl⟩
  rw[←hW7]at HRS HBS HAS
  unfold sets at hW7
  simp only[List.foldl_cons,List.foldl_nil]at hW7
  go_wp2
  rw[←hW7]
  clear hW7
  have q0:W7.cell? ⟨w.heap.size,0,none⟩=some _:=HRS.out.zc 0 rfl
  have q1:W7.cell? ⟨w.heap.size,1,none⟩=some _:=HRS.out.zc 1 rfl
  have q2:W7.cell? ⟨w.heap.size,2,none⟩=some _:=HRS.out.zc 2 rfl
  have q3:W7.cell? ⟨w.heap.size,3,none⟩=some _:=HRS.out.zc 3 rfl
  have q4:W7.cell? ⟨w.heap.size,4,none⟩=some _:=HRS.out.zc 4 rfl
  have q5:W7.cell? ⟨w.heap.size,5,none⟩=some _:=HRS.out.zc 5 rfl
  have q6:W7.cell? ⟨w.heap.size,6,none⟩=some _:=HRS.out.zc 6 rfl
  have q7:W7.cell? ⟨w.heap.size,7,none⟩=some _:=HRS.out.zc 7 rfl
  have q8:W7.cell? ⟨w.heap.size,8,none⟩=some _:=HRS.out.zc 8 rfl
  have q9:W7.cell? ⟨w.heap.size,9,none⟩=some _:=HRS.out.zc 9 rfl
  have HFI:=zhd ((HSY.out.agree HAS.out).mono (S':=TT) fun _ _=>trivial)
  refine bodyPost_ret (v:=.tuple #[.agg #[.int .i64 e52S.p.n,.int .i64 e52S.p.ins,.int .i64 e52S.p.outs,.slice ca e52S.p.cs.length cc,.int .i64 e52S.p.an,.slice sa e52S.p.st.length sc,.int .i64 e52S.p.rounds,.int .i64 e52S.tn,.slice ta 8 tc,.slice xa e52S.ex.length xc],.bool true]) (by simp[results,Tryz.results30,go_sem,q0,q1,q2,q3,q4,q5,q6,q7,q8,q9]) rfl ?_
  exact .mk (HBS.out.trans (zf _ _ 1)) ⟨_,rfl,HFI.out.ext (zf _ _ 1)⟩
end Go.Proofs.YtfjlhjkjjbiliaaGreat
