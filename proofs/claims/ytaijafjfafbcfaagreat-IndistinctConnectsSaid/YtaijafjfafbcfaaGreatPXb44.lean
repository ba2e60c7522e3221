/- Part of the proof that the laws answer true for every input. -/
import Derived.Test.YtaijafjfafbcfaaGreatPXb43
import Derived.Test.YtaijafjfafbcfaaGreatPXb39
set_option linter.unusedSimpArgs false
set_option linter.unnecessarySimpa false
set_option linter.unusedVariables false
set_option maxRecDepth 100000
set_option maxHeartbeats 40000000
namespace Go.Proofs.YtaijafjfafbcfaaGreat
open Go.RowKit
attribute [local go_sem ↓] Go.wp_at_zero Go.wp_at_succ
theorem pDist_calls {S:Nat→Prop} {w:World} {v:Value} {s:SysF} (e f:Int) (he:WF e) (hf':WF f) (h:SysV S w v s) (hf:PFew s.p):
  Calls Tryz.prog 21 #[v,.int .i64 e,.int .i64 f] w (Post w fun _ r=>DstR s e f r):=by
 have KS:Hid (∀(S2:Nat→Prop) W vl,Below w.heap.size w W→Ints S2 W vl [e,f]→Calls Tryz.prog 33 #[v,vl] W (Post W (ScnR W.heap.size s e f))):=Lib.hid fun S2 W vl hW hl=>scene_calls e f (h.ext hW) hf hl
 have KB:Hid (thE s e f=0→s.N≤5∧s.ex.length≤4096∧∃x y:Nat,e=x∧f=y∧x<s.ex.length∧y<s.ex.length∧(dstL s y).length=s.ex.length∧nth (dstL s y) x=dstV s y x∧(0≤dstV s y x→DstR s e f (.tuple #[.int .i64 (dstV s y x),.bool true,.int .i64 0]))∧(dstV s y x<0→DstR s e f (.tuple #[.int .i64 0,.bool false,.int .i64 0]))):=Lib.hid fun h0=>by
  obtain ⟨h1,x,y,rfl,rfl,hx,hy⟩:=thE_ok h0
  exact ⟨(good_sys h1 h.moves8).pok.n1.2,ex_le h1 (good_sys h1 h.moves8),x,y,rfl,rfl,hx,hy,dstL_len _ _,dstL_at _ _ hx,dst_ok h0,dst_no h0⟩
 have HE:Hid (thE s e f≠0→DstR s e f (.tuple #[.int .i64 0,.bool false,.int .i64 (thE s e f)])):=Lib.hid dst_err
 obtain ⟨LR,hLR⟩:∃LR,LR=DstR s e f:=⟨_,rfl⟩
 rw[←hLR]at KB HE ⊢
 have HWF:Hid (∀x∈[e,f],WF x):=Lib.hid fun x hx=>by
  rcases List.mem_cons.1 hx with rfl | hx
  ·exact he
  ·rw[List.mem_singleton.1 hx];exact hf'
 obtain ⟨vc,vs,vt,vx,rfl,hc,hs,ht,hx⟩:=h
 obtain ⟨ca,cc,rfl,_⟩:=hc.form
 obtain ⟨sa,sc,rfl,_⟩:=hs.form
 obtain ⟨ta,tc,rfl,_⟩:=ht.form
 obtain ⟨xa,xc,rfl,xad,_⟩:=hx.form2
 have ex:=ext_alloc w (.cells #[.int .i64 s.p.n,.int .i64 s.p.ins,.int .i64 s.p.outs,.slice ca s.p.cs.length cc,.int .i64 s.p.an,.slice sa s.p.st.length sc,.int .i64 s.p.rounds,.int .i64 s.tn,.slice ta s.tab.length tc,.slice xa s.ex.length xc] 35)
 have R0:=row_new w [.int .i64 s.p.n,.int .i64 s.p.ins,.int .i64 s.p.outs,.slice ca s.p.cs.length cc,.int .i64 s.p.an,.slice sa s.p.st.length sc,.int .i64 s.p.rounds,.int .i64 s.tn,.slice ta s.tab.length tc,.slice xa s.ex.length xc] 35
 have RL:=row_new (w.alloc (.cells #[.int .i64 s.p.n,.int .i64 s.p.ins,.int .i64 s.p.outs,.slice ca s.p.cs.length cc,.int .i64 s.p.an,.slice sa s.p.st.length sc,.int .i64 s.p.rounds,.int .i64 s.tn,.slice ta s.tab.length tc,.slice xa s.ex.length xc] 35)) [.int .i64 e,.int .i64 f] 3
 have HL:=Lib.hid (RL.ints (l:=[e,f]) (by simp[maxLen]) HWF.out)
 have ex2:=ext_alloc' ex (.cells #[.int .i64 e,.int .i64 f] 3)
 have R00:=row_new w [.int .i64 s.p.n,.int .i64 s.p.ins,.int .i64 s.p.outs,.slice ca s.p.cs.length cc,.int .i64 s.p.an,.slice sa s.p.st.length sc,.int .i64 s.p.rounds,.int .i64 s.tn,.slice ta s.tab.length tc,.slice xa s.ex.length xc] 35
 have t0:=R00.cell (j:=0) rfl
 have t1:=R00.cell (j:=1) rfl
 have t2:=R00.cell (j:=2) rfl
 have t3:=R00.cell (j:=3) rfl
 have t4:=R00.cell (j:=4) rfl
 have t5:=R00.cell (j:=5) rfl
 have t6:=R00.cell (j:=6) rfl
 have t7:=R00.cell (j:=7) rfl
 have t8:=R00.cell (j:=8) rfl
 have t9:=R00.cell (j:=9) rfl
 have l0:=R00.lt
 rw[World.size_alloc]at HL
 clear hc hs ht hx xad hf hLR ex RL he hf' R00 R0
 go_enter Tryz.func21,Tryz.ntmps21
 go_wp2_with fail
 refine (KS.out _ _ _ ex2 HL.out).mono ?_
 rintro _ w1 ⟨_,rfl,hb,hO⟩
 have ex:=ext_trans ex2 hb
 clear KS HL ex2 t0 t1 t2 t3 t4 t5 t6 t7 t8 t9 l0 hb
 rcases hO with ⟨hv,g,la,lc,rfl,hF⟩ | ⟨hv,rfl⟩
 case inr=>
  have RR:=Lib.hid (HE.out hv)
  obtain ⟨t,htt⟩:∃t,t=thE s e f:=⟨_,rfl⟩
  rw[←htt]at RR hv ⊢
  have d0:(t !=0)=true:=by simp[hv]
  clear htt hv
  go_wp2
  go_ret3
  exact .mk ex RR.out
 obtain ⟨hN5,hxl,x,y,rfl,rfl,hx,hy,hdl,hda,h1,h2⟩:=KB.out hv
 have H1:=Lib.hid h1
 have H2:=Lib.hid h2
 have HDL:=Lib.hid hdl
 have HDA:=Lib.hid hda
 have KD:=Lib.hid (distances_calls hF hxl hN5 hy)
 have d0:((0:Int) !=0)=false:=rfl
 clear hv h1 h2 KB HE hF hdl hda
 go_wp2_with fail
 refine KD.out.mono ?_
 rintro _ w2 ⟨fv,rfl,hb,hi⟩
 have ex2:=ext_trans ex hb
 obtain ⟨fa,fc,rfl,_⟩:=hi.form
 have qe:=hi.idx (k:=x) (by rw[HDL.out];exact hx)
 have ce:=hi.cellN (k:=x) (by rw[HDL.out];exact hx)
 rw[HDA.out]at ce
 have be:=World.block_lt_of_cell? _ _ ce
 obtain ⟨ll,hll⟩:∃ll,ll=(dstL s y).length:=⟨_,rfl⟩
 rw[←hll]at qe ⊢
 obtain ⟨dd,hdd⟩:∃dd,dd=dstV s y x:=⟨_,rfl⟩
 rw[←hdd]at ce H1 H2
 clear hll hdd hb hi ex KD d0
 by_cases hd:0≤dd
 ·have RR:=Lib.hid (H1.out hd)
  have d1:decide (dd<0)=false:=decide_eq_false (by omega)
  have hd1:¬dd<0:=by omega
  have d2:decide (0≤dd)=true:=decide_eq_true hd
  by_cases hd0:0<dd
  ·have d3:decide (0<dd)=true:=decide_eq_true hd0
   clear hd
   go_wp2
   go_ret3
   exact .mk ex2 RR.out
  ·obtain rfl:dd=0:=by omega
   clear hd hd0 d1 hd1 d2
   go_wp2
   go_ret3
   exact .mk ex2 RR.out
 ·have RR:=Lib.hid (H2.out (by omega))
  have hd1:dd<0:=by omega
  have d1:decide (dd<0)=true:=decide_eq_true hd1
  have d2:decide (0≤dd)=false:=decide_eq_false hd
  have d3:decide (0<dd)=false:=decide_eq_false (by omega)
  have hd2:¬0<dd:=by omega
  go_wp2
  go_ret3
  exact .mk ex2 RR.out
theorem pVerifyW_calls {S S2:Nat→Prop} {w:World} {v vw:Value} {s:SysF} {l:List (List Int)} (h:SysV S w v s) (hf:PFew s.p) (hw:Sl (kFlat 2) S2 w vw l):
  Calls Tryz.prog 24 #[v,vw] w (Post w fun _ r=>r=.int .i64 (verW s l)):=by
 have KO:Hid (∀W,Below w.heap.size w W→Calls Tryz.prog 37 #[v] W (Post W (OfR W.heap.size s))):=Lib.hid fun W hW=>fof_calls (h.ext hW) hf
 have HG:Hid (verE s=0→s.N≤5):=Lib.hid fun h0=>(good_sys h0 h.moves8).pok.n1.2
 have HV:Hid (verW s l=if verE s=0 then chkW s l else verE s):=Lib.hid rfl
 have HC:Hid (chkW s l=if l.length=0 then 16 else if 4096<l.length then 5 else firstE (linkE s l) l.length):=Lib.hid rfl
 obtain ⟨r,hr⟩:∃r,r=verW s l:=⟨_,rfl⟩
 rw[←hr]at HV ⊢
 obtain ⟨vc,vs,vt,vx,rfl,hc,hs,ht,hx⟩:=h
 obtain ⟨ca,cc,rfl,_⟩:=hc.form
 obtain ⟨sa,sc,rfl,_⟩:=hs.form
 obtain ⟨ta,tc,rfl,_⟩:=ht.form
 obtain ⟨xa,xc,rfl,xad,_⟩:=hx.form2
 obtain ⟨wa,wc,rfl,wad,_,_,hwl⟩:=hw.form2
 have HQ:=Lib.hid (idx_link wad)
 have HWL:=Lib.hid hw
 have ex:=ext_alloc w (.cells #[.int .i64 s.p.n,.int .i64 s.p.ins,.int .i64 s.p.outs,.slice ca s.p.cs.length cc,.int .i64 s.p.an,.slice sa s.p.st.length sc,.int .i64 s.p.rounds,.int .i64 s.tn,.slice ta s.tab.length tc,.slice xa s.ex.length xc] 35)
 have R0:=row_new w [.int .i64 s.p.n,.int .i64 s.p.ins,.int .i64 s.p.outs,.slice ca s.p.cs.length cc,.int .i64 s.p.an,.slice sa s.p.st.length sc,.int .i64 s.p.rounds,.int .i64 s.tn,.slice ta s.tab.length tc,.slice xa s.ex.length xc] 35
 have t0:=R0.cell (j:=0) rfl
 have t1:=R0.cell (j:=1) rfl
 have t2:=R0.cell (j:=2) rfl
 have t3:=R0.cell (j:=3) rfl
 have t4:=R0.cell (j:=4) rfl
 have t5:=R0.cell (j:=5) rfl
 have t6:=R0.cell (j:=6) rfl
 have t7:=R0.cell (j:=7) rfl
 have t8:=R0.cell (j:=8) rfl
 have t9:=R0.cell (j:=9) rfl
 have l0:=R0.lt
 clear hc hs ht hx xad hf hw wad hr
 go_enter Tryz.func24,Tryz.ntmps24
 go_wp2_with fail
 refine (KO.out _ ex).mono ?_
 rintro _ w1 ⟨_,rfl,hb,hO⟩
 replace R0:=R0.ext hb
 replace ex:=ext_trans ex hb
 clear hb KO R0 t0 t1 t2 t3 t4 t5 t6 t7 t8 t9 l0
 rcases hO with ⟨hv,g,la,lc,rfl,hF⟩ | ⟨hv,rfl⟩
 case inr=>
  have RR:=Lib.hid (HV.out.trans (if_neg hv))
  obtain ⟨t,htt⟩:∃t,t=verE s:=⟨_,rfl⟩
  rw[←htt]at RR hv ⊢
  have d0:(t !=0)=true:=by simp[hv]
  clear htt hv HV HC HG
  go_wp2
  go_ret
  exact .mk ex (int_eq RR.out.symm)
 have HC0:=Lib.hid ((HV.out.trans (if_pos hv)).trans HC.out)
 have hN5:=HG.out hv
 have HF:=Lib.hid hF
 have d0:((0:Int) !=0)=false:=rfl
 clear hv hF HV HC HG
 by_cases h0:l.length=0
 ·have HR:=Lib.hid (HC0.out.trans (if_pos h0))
  have d1:((l.length:Int)==0)=true:=by simp[h0]
  clear h0
  go_wp2
  go_ret
  exact .mk ex (int_eq HR.out.symm)
 have HC2:=Lib.hid (HC0.out.trans (if_neg h0))
 have d1:((l.length:Int)==0)=false:=by rw[beq_eq_false_iff_ne];omega
 by_cases h1:4096<l.length
 ·have HR:=Lib.hid (HC2.out.trans (if_pos h1))
  have d2:decide ((4096:Int)<(l.length:Int))=true:=decide_eq_true (by omega)
  have d2':decide (4096<l.length)=true:=decide_eq_true h1
  clear h0
  go_wp2
  go_ret
  exact .mk ex (int_eq HR.out.symm)
 have HC3:=Lib.hid (HC2.out.trans (if_neg h1))
 have d2:decide ((4096:Int)<(l.length:Int))=false:=decide_eq_false (by omega)
 have d2':decide (4096<l.length)=false:=decide_eq_false h1
 have hb0:=Below.refl w1.heap.size w1
 have HEX:=Lib.hid ex
 clear h0 HC0 HC2 ex
 go_wp2
 clear d1 d2 d2' d0
 go_loopw [7,8,28,33,39,47,50,63] (fun _ _ i _ _ _ _ _ wr=>∃k:Nat,k≤l.length∧i=.int .i64 k∧Below w1.heap.size w1 wr∧Hid (Zeros (linkE s l) k)) (fun _ _ i _ _ _ _ _ _=>l.length - (intOf i).toNat)
 case atStart=>exact ⟨0,Nat.zero_le _,rfl,hb0,Lib.hid (Zeros.zero _)⟩
 case round=>
  clear hb0
  obtain ⟨k,hk,rfl,hb,HZ⟩:=hrel
  by_cases hlt:k<l.length
  case neg=>
   have HR:=Lib.hid (HC3.out.trans (HZ.out.done (by omega)))
   have ex:=ext_trans HEX.out hb
   go_wp2
   go_ret
   exact .mk ex (int_eq HR.out.symm)
  have q1:=HQ.out k hlt
  obtain ⟨z0,z1⟩:=HWL.out.nums (k:=k) hlt (by decide)
  have z1:=z1 1 (by decide)
  have HPV:Hid (∀m,k=m+1→∃y:Nat,nth (nthL l m) 0=y∧y<s.ex.length∧w.cell? (adr wa (m * 2))=some (.int .i64 y)∧∀W:World,(Instr.indexAt 53 (.slice wa l.length wc) (.int .i64 m)).run Tryz.prog W=.ok (.pointer (some (adr wa (m * 2)))) W):=Lib.hid fun m hm=>by
   obtain ⟨y,hy,hyl⟩:=linkE_in (HZ.out m (by omega))
   have:=(HWL.out.nums (k:=m) (by omega) (by decide)).1
   rw[hy]at this
   exact ⟨y,hy,hyl,this,HQ.out m (by omega)⟩
  have HE:Hid (linkE s l k=if nth (nthL l k) 0<0∨(s.ex.length:Int)≤nth (nthL l k) 0 then 6 else
   if k=0 then (if nth (nthL l k) 1≠ -1 then 3 else 0) else
   if nth (nthL l k) 1<0∨(s.N:Int)≤nth (nthL l k) 1 then 2 else
   if lkB s (nth (nthL l k) 1).toNat (nth (nthL l (k - 1)) 0).toNat (nth (nthL l k) 0).toNat then 0 else 18):=Lib.hid rfl
  have HST:Hid (∀u:Int,linkE s l k=u→u≠0→r=u):=Lib.hid fun u hu hu0=>HC3.out.trans (HZ.out.stop hu hu0 hlt)
  have HNX:Hid (linkE s l k=0→Zeros (linkE s l) (k+1)):=Lib.hid fun h=>HZ.out.next h
  obtain ⟨x,hxx⟩:∃x,x=nth (nthL l k) 0:=⟨_,rfl⟩
  obtain ⟨q,hqq⟩:∃q,q=nth (nthL l k) 1:=⟨_,rfl⟩
  rw[←hxx]at z0 HE
  rw[←hqq]at z1 HE
  replace z0:=cell_ext z0 (ext_trans HEX.out hb)
  replace z1:=cell_ext z1 (ext_trans HEX.out hb)
  have bk:=World.block_lt_of_cell? _ _ z0
  have RY:=row_new wr [.int .i64 x,.int .i64 q] 70
  have hy:=ext_trans hb (ext_alloc wr (.cells #[.int .i64 x,.int .i64 q] 70))
  clear hxx hqq
  go_upto_region 11 with fail
  obtain ⟨YB,hYB⟩:∃YB,YB=wr.heap.size:=⟨_,rfl⟩
  obtain ⟨wy,hwy⟩:∃wy,wy=wr.alloc (.cells #[.int .i64 x,.int .i64 q] 70):=⟨_,rfl⟩
  rw[←hYB]at RY
  rw[←hwy]at RY hy
  rw[←hYB,←hwy]
  clear hYB hwy z0 z1 bk q1 hb
  have y0:=RY.cell (j:=0) rfl
  have yl:=RY.lt
  have KT:=Lib.hid ((there_quiet x (HF.out.ext hy)).mono fun _ _ h=>h.take)
  by_cases hz:0≤x∧x<(s.ex.length:Int)
  case neg=>
   rw[decide_eq_false hz]at KT
   have h6:=HE.out.trans (if_pos (by omega))
   have RR:=Lib.hid (HST.out _ h6 (by decide))
   clear hz h6
   go_wp2_with fail
   refine KT.out.mono ?_
   rintro _ w2 ⟨_,rfl,hq,rfl⟩
   have ex:=ext_trans (ext_trans HEX.out hy) hq.ext
   clear hq KT
   go_wp2
   go_ret
   exact .mk ex (int_eq RR.out.symm)
  rw[decide_eq_true hz]at KT
  have HE2:=Lib.hid (HE.out.trans (if_neg (by omega)))
  have HX:Hid (∃xn:Nat,x=xn∧xn<s.ex.length):=Lib.hid ⟨x.toNat,by omega,by omega⟩
  clear hz HE
  go_wp2_with fail
  refine KT.out.mono ?_
  rintro _ wz ⟨_,rfl,hqz,rfl⟩
  have RZ:=RY.ext hqz.ext
  have hz:=ext_trans hy hqz.ext
  clear hqz KT y0 yl RY hy
  have y0:=RZ.cell (j:=0) rfl
  have y1:=RZ.cell (j:=1) rfl
  have yl:=RZ.lt
  have HZW:=Lib.hid hz
  have HRZ:=Lib.hid RZ
  have HEX2:=Lib.hid (ext_trans HEX.out hz)
  clear RZ
  by_cases h3:k=0
  ·have d3:((k:Int)==0)=true:=by simp[h3]
   have HE3:=Lib.hid (HE2.out.trans (if_pos h3))
   clear h3
   by_cases h4:q= -1
   ·have d4:(q != -1)=false:=by simp[h4]
    have HN:=Lib.hid (HNX.out (HE3.out.trans (if_neg (by simp[h4]))))
    clear h4
    go_wp2
    go_roundw
    case rel=>exact ⟨k+1,by omega,by go_num,hz,HN⟩
    case measure=>simp[intOf];omega
   ·have d4:(q != -1)=true:=by simp[h4]
    have RR:=Lib.hid (HST.out _ (HE3.out.trans (if_pos h4)) (by decide))
    clear h4
    go_wp2
    go_ret
    exact .mk HEX2.out (int_eq RR.out.symm)
  have d3:((k:Int)==0)=false:=by simp[h3]
  have HE3:=Lib.hid (HE2.out.trans (if_neg h3))
  obtain ⟨m,hm⟩:∃m,k=m+1:=⟨k - 1,by omega⟩
  obtain ⟨yn,hy0,hyl,hyc,qy⟩:=HPV.out m hm
  have HE4:Hid (linkE s l k=if q<0∨(s.N:Int)≤q then 2 else if lkB s q.toNat (nth (nthL l m) 0).toNat x.toNat then 0 else 18):=Lib.hid (by rw[HE3.out,hm,Nat.add_sub_cancel])
  have DW:Hid (IntKind.i64.wrap ((k:Int) - 1)=(m:Int)):=Lib.hid (by
   rw[IntWalk.i64_left,IntWalk.wrap64_in _ (by omega)];omega)
  have x0:=(HF.out.ext hz).x0
  have lg:=(HF.out.ext hz).row.lt
  clear h3 HE2 HE3 hm
  by_cases h5:q<0
  ·have d5:decide (q<0)=true:=decide_eq_true h5
   have RR:=Lib.hid (HST.out _ (HE4.out.trans (if_pos (.inl h5))) (by decide))
   clear hyc qy
   go_wp2
   go_quiet (fail)
   go_wp2
   go_ret
   exact .mk (ext_trans HEX2.out (drewN_below _ _ _)) (int_eq RR.out.symm)
  have d5:decide (q<0)=false:=decide_eq_false h5
  by_cases h6:(s.N:Int)≤q
  ·have d6:decide ((s.N:Int)≤q)=true:=decide_eq_true h6
   have RR:=Lib.hid (HST.out _ (HE4.out.trans (if_pos (.inr h6))) (by decide))
   clear hyc qy
   go_wp2
   go_quiet (fail)
   go_wp2
   go_ret
   exact .mk (ext_trans HEX2.out (drewN_below _ _ _)) (int_eq RR.out.symm)
  have d6:decide ((s.N:Int)≤q)=false:=decide_eq_false h6
  have HE5:=Lib.hid (HE4.out.trans (if_neg (fun h=>by rcases h with h | h;exact h5 h;exact h6 h)))
  rw[hy0]at HE5
  clear hyc qy
  go_wp2
  go_quiet (fail)
  refine draw_then fun w4 hq4=>?_
  obtain ⟨xn,hxn,hxl⟩:=HX.out
  obtain ⟨qn,hqn⟩:∃qn:Nat,q=qn:=⟨q.toNat,by omega⟩
  have hqN:qn<s.N:=by omega
  have R4:=HRZ.out.ext hq4.ext
  have hz4:=ext_trans HZW.out hq4.ext
  have HEX4:=Lib.hid (ext_trans HEX2.out hq4.ext)
  have HBT:Hid (∀z:Nat,z=byN s yn xn→(bits .and .i64 ((z:Int) / 2 ^ qn) 1==0)= !lkB s q.toNat (Int.toNat (yn:Int)) x.toNat):=Lib.hid fun z hz=>by
   rw[bit_if,hz,byN_bit,decide_eq_true hqN,hqn,hxn,Int.toNat_natCast,Int.toNat_natCast,Int.toNat_natCast,Bool.true_and]
  have KL2:Hid (∀W,Below w4.heap.size w4 W→Calls Tryz.prog 34 #[.pointer (some ⟨g,0,none⟩),.int .i64 (yn:Int),.int .i64 x] W (fun e w'=>∃r,e=.returned r∧QW W w'∧r=.int .i64 (byN s yn xn))):=Lib.hid fun W hW=>by
   rw[hxn]
   exact (linked_quiet (HF.out.ext (ext_trans hz4 hW)).t hN5 hyl hxl).mono fun _ _ h=>h.take
  obtain ⟨zz,hzz⟩:∃zz,zz=byN s yn xn:=⟨_,rfl⟩
  have HBZ:=Lib.hid (HBT.out zz hzz)
  rw[←hzz]at KL2
  obtain ⟨y,hyy⟩:∃y:Int,y=yn:=⟨_,rfl⟩
  rw[←hyy]at KL2 HE5 HBZ
  obtain ⟨bb,hbb⟩:∃bb,bb=lkB s q.toNat y.toNat x.toNat:=⟨_,rfl⟩
  rw[←hbb]at HE5 HBZ
  have HPV2:Hid (w.cell? (adr wa (m * 2))=some (.int .i64 y)∧∀W:World,(Instr.indexAt 53 (.slice wa l.length wc) (.int .i64 m)).run Tryz.prog W=.ok (.pointer (some (adr wa (m * 2)))) W):=Lib.hid (by
   obtain ⟨y9,h1,h2,h3,h4⟩:=HPV.out m (by have:=DW.out;rw[IntWalk.i64_left,IntWalk.wrap64_in _ (by omega)]at this;omega)
   have:y9=yn:=by rw[hy0]at h1;omega
   subst this
   rw[hyy];exact ⟨h3,h4⟩)
  rw[hqn]at R4
  have KEEP:Hid (∀w',Below w4.heap.size w4 w'→(fun w':World=>w'.cell? ⟨YB,0,none⟩=some (.int .i64 x)∧w'.cell? ⟨YB,1,none⟩=some (.int .i64 qn)∧w'.cell? (adr wa (m * 2))=some (.int .i64 y)) w'):=Lib.hid fun w' hw=>⟨(R4.ext hw).cell (j:=0) rfl,(R4.ext hw).cell (j:=1) rfl,cell_ext HPV2.out.1 (ext_trans HEX4.out hw)⟩
  have q1:=HPV2.out.2
  have dW:=DW.out
  have HX4:=Lib.hid hz4
  clear h5 h6 d5 d6 HX HPV HBT hq4 R4 hz4 hxn hqn hzz hyy hbb hy0 y0 y1 yl x0 lg HE4 hz
  go_wp2
  refine region_E (fun w':World=>w'.cell? ⟨YB,0,none⟩=some (.int .i64 x)∧w'.cell? ⟨YB,1,none⟩=some (.int .i64 qn)∧w'.cell? (adr wa (m * 2))=some (.int .i64 y)) (fun i=>false) (by kernel_rfl) ?_ (fun hHeld=>?_)
  ·exact KEEP.out _ (drewN_below w4.heap.size w4 1)
  refine anyE_take 0 (v:=?_) rfl (by kernel_rfl) (fun _ _ _ h=>h) (by rfl) ?hy0 hHeld ?rest0
  case hy0=>(intro w hSw;(try dsimp only at hSw);go_simp;try with_reducible rfl)
  try simp only[Act.put,zsa,zsz,zss]
  refine anyE_take 1 (v:=?_) rfl (by kernel_rfl) (fun _ _ _ h=>h) (by rfl) ?hy1 hHeld ?rest1
  case hy1=>(intro w hSw;(try dsimp only at hSw);go_simp;try with_reducible rfl)
  try simp only[Act.put,zsa,zsz,zss]
  refine anyE_take 2 (v:=?_) rfl (by kernel_rfl) (fun _ _ _ h=>h) (by rfl) ?hy2 hHeld ?rest2
  case hy2=>(intro w hSw;(try dsimp only at hSw);go_simp;try with_reducible rfl)
  try simp only[Act.put,zsa,zsz,zss]
  refine anyE_take 3 (v:=?_) rfl (by kernel_rfl) (fun _ _ _ h=>h) (by rfl) ?hy3 hHeld ?rest3
  case hy3=>(intro w hSw;(try dsimp only at hSw);go_simp;try with_reducible rfl)
  try simp only[Act.put,zsa,zsz,zss]
  refine anyE_take 4 (v:=?_) rfl (by kernel_rfl) (fun _ _ _ h=>h) (by rfl) ?hy4 hHeld ?rest4
  case hy4=>(intro w hSw;(try dsimp only at hSw);go_simp;try with_reducible rfl)
  try simp only[Act.put,zsa,zsz,zss]
  refine anyE_take 5 (v:=?_) rfl (by kernel_rfl) (fun _ _ _ h=>h) (by rfl) ?hy5 hHeld ?rest5
  case hy5=>(intro w hSw;(try dsimp only at hSw);go_simp;try with_reducible rfl)
  try simp only[Act.put,zsa,zsz,zss]
  refine anyE_take 6 (v:=?_) rfl (by kernel_rfl) (fun _ _ _ h=>h) (by rfl) ?hy6 hHeld ?rest6
  case hy6=>(intro w hSw;(try dsimp only at hSw);go_simp;try with_reducible rfl)
  try simp only[Act.put,zsa,zsz,zss]
  refine anyE_take 7 (v:=?_) rfl (by kernel_rfl) (fun _ _ _ h=>h) (by rfl) ?hy7 hHeld ?rest7
  case hy7=>(intro w hSw;(try dsimp only at hSw);go_simp;try with_reducible rfl)
  try simp only[Act.put,zsa,zsz,zss]
  refine anyE_take 8 (v:=?_) rfl (by kernel_rfl) (fun _ _ _ h=>h) (by rfl) ?hy8 hHeld ?rest8
  case hy8=>(intro w hSw;(try dsimp only at hSw);go_simp;try with_reducible rfl)
  try simp only[Act.put,zsa,zsz,zss]
  refine anyE_take 10 (v:=?_) rfl (by kernel_rfl) (fun _ _ _ h=>h) (by rfl) ?hy10 hHeld ?rest10
  case hy10=>(intro w hSw;(try dsimp only at hSw);go_simp;try with_reducible rfl)
  try simp only[Act.put,zsa,zsz,zss]
  refine anyE_take 11 (v:=?_) rfl (by kernel_rfl) (fun _ _ _ h=>h) (by rfl) ?hy11 hHeld ?rest11
  case hy11=>(intro w hSw;(try dsimp only at hSw);go_simp;try with_reducible rfl)
  try simp only[Act.put,zsa,zsz,zss]
  refine anyE_one 9 rfl (by kernel_rfl) (fun K hK=>?_)
  (go_simp;go_at_call 34;refine (KL2.out _ (drewN_below w4.heap.size w4 1)).mono ?_;rintro _ v1 ⟨_,rfl,hb,rfl⟩;have y1:=ext_trans (drewN_below w4.heap.size w4 1) hb.ext;clear hb)
  refine hK.out _ _ (fun _=>KEEP.out _ y1) (fun hHeld=>?_);replace hHeld:=hHeld rfl
  clear hK K
  try simp only[Act.put,zsa,zsz,zss]
  refine anyE_take 12 (v:=?_) rfl (by kernel_rfl) (fun _ _ _ h=>h) (by rfl) ?hy12 hHeld ?rest12
  case hy12=>(intro w hSw;(try dsimp only at hSw);go_simp;try with_reducible rfl)
  try simp only[Act.put,zsa,zsz,zss]
  refine anyE_take 13 (v:=?_) rfl (by kernel_rfl) (fun _ _ _ h=>h) (by rfl) ?hy13 hHeld ?rest13
  case hy13=>(intro w hSw;(try dsimp only at hSw);go_simp;try with_reducible rfl)
  try simp only[Act.put,zsa,zsz,zss]
  refine anyE_take 14 (v:=?_) rfl (by kernel_rfl) (fun _ _ _ h=>h) (by rfl) ?hy14 hHeld ?rest14
  case hy14=>(intro w hSw;(try dsimp only at hSw);go_simp;try with_reducible rfl)
  try simp only[Act.put,zsa,zsz,zss]
  refine anyE_take 15 (v:=?_) rfl (by kernel_rfl) (fun _ _ _ h=>h) (by rfl) ?hy15 hHeld ?rest15
  case hy15=>(intro w hSw;(try dsimp only at hSw);go_simp;try with_reducible rfl)
  try simp only[Act.put,zsa,zsz,zss]
  refine anyE_done (by kernel_rfl) ?_ _
  have hz5:=ext_trans HX4.out y1
  have HF5:=Lib.hid (ext_trans HEX4.out y1)
  clear hHeld KEEP y1 dW q1 KL2
  cases bb with
  | true=>
   have HN:=Lib.hid (HNX.out (by rw[HE5.out];rfl))
   have dz:(bits .and .i64 ((zz:Int) / 2 ^ qn) 1==0)=false:=HBZ.out
   go_wp2
   go_roundw
   case rel=>exact ⟨k+1,by omega,by go_num,hz5,HN⟩
   case measure=>simp[intOf];omega
  | false=>
   have RR:=Lib.hid (HST.out 18 (by rw[HE5.out];rfl) (by decide))
   have dz:(bits .and .i64 ((zz:Int) / 2 ^ qn) 1==0)=true:=HBZ.out
   go_wp2
   go_ret
   exact .mk HF5.out (int_eq RR.out.symm)
end Go.Proofs.YtaijafjfafbcfaaGreat
