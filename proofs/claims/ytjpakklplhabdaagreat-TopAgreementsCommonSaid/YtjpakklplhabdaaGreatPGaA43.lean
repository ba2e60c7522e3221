/- Part of the proof that the laws answer true for every input. -/
import Derived.Test.YtjpakklplhabdaaGreatPGaA38
import Derived.Test.YtjpakklplhabdaaGreatPGaA39
set_option linter.unusedSimpArgs false
set_option linter.unnecessarySimpa false
set_option linter.unusedVariables false
set_option maxRecDepth 100000
set_option maxHeartbeats 40000000
namespace Go.Proofs.YtjpakklplhabdaaGreat
open Go.RowKit
attribute [local go_sem ↓] Go.wp_at_zero Go.wp_at_succ
def badP (most x:Int):Bool:=decide (x< -1)||decide (most≤x)
theorem zeu {N:Nat} (hN:N≤5):wrap64 (2 ^ N)=((2 ^ N:Nat):Int):=by
 have:N=0∨N=1∨N=2∨N=3∨N=4∨N=5:=by omega
 rcases this with rfl | rfl | rfl | rfl | rfl | rfl<;>decide+kernel
theorem zdh {S:Nat→Prop} {w:World} {vc:Value} {cs:List CaseD} {ins most:Int} {N i f:Nat} (hc:Sl kCase S w vc cs) (ht:checkT N ins most cs=0) (hi:i<cs.length) (hN:N≤5) (hf:f<2 ^ N):
  Calls Tryz.prog 68 #[.agg #[.int .i64 N,.int .i64 ins,.int .i64 most,vc],.int .i64 i,.int .i64 f] w (Post w fun _ r=>r=.int .i64 0):=by
 have KC:Hid (∀W,Below w.heap.size w W→Calls Tryz.prog 20 #[.agg #[.int .i64 N,.int .i64 ins,.int .i64 most,vc]] W (Post W fun _ r=>r=.int .i64 0)):=zhd fun W hW=>by rw[←ht];exact qh _ _ _ (hc.ext hW)
 obtain ⟨ca,cc,rfl,_⟩:=hc.form
 have ex:=zb w (.cells #[.int .i64 N,.int .i64 ins,.int .i64 most,.slice ca cs.length cc] 24)
 have R:=ze w [.int .i64 N,.int .i64 ins,.int .i64 most,.slice ca cs.length cc] 24
 have t0:=R.zc 0 rfl
 have t1:=R.zc 1 rfl
 have t2:=R.zc 2 rfl
 have t3:=R.zc 3 rfl
 have l0:=R.lt
 have e1:decide ((i:Int)<0)=false:=decide_eq_false (by omega)
 have e2:decide (cs.length≤i)=false:=decide_eq_false (by omega)
 have e3:decide ((f:Int)<0)=false:=decide_eq_false (by omega)
 have hp:=zeu hN
 have e4:decide (wrap64 (2 ^ N)≤(f:Int))=false:=decide_eq_false (by rw[hp];exact Int.not_le.2 (Int.ofNat_lt.2 hf))
 have HEX:=zhd ex
 clear hc ht hp hf
 go_enter Tryz.func68,Tryz.ntmps68
 go_wp2_with fail
 refine (KC.out _ HEX.out).mono ?_
 rintro _ w1 ⟨_,rfl,hb1,rfl⟩
 replace R:=R.ext hb1
 replace ex:=za ex hb1
 clear t0 t1 t2 t3 l0 hb1 KC HEX
 have t0:=R.zc 0 rfl
 have t3:=R.zc 3 rfl
 have l0:=R.lt
 have HX:=zhd ex
 clear ex
 go_wp2
 go_ret
 exact .mk HX.out rfl
theorem zem (W:World) (g:Nat) (x most:Int) (h:W.cell? ⟨g,2,none⟩=some (.int .i64 most)):Calls Tryz.prog 69 #[.int .i64 x,.pointer (some ⟨g,0,none⟩)] W (QuietP W (.bool (badP most x))):=by
 have hl:=World.block_lt_of_cell? _ _ h
 have HB:Hid (badP most x=(decide (x< -1)||decide (most≤x))):=zhd rfl
 have hqw:QW W W:=⟨0,rfl⟩
 by_cases h1:x< -1
 ·have d1:decide (x< -1)=true:=decide_eq_true h1
  have RR:Hid (badP most x=true):=zhd (by rw[HB.out,d1];rfl)
  clear h1
  go_enter Tryz.func69,Tryz.ntmps69
  go_wp2
  go_ret
  exact .fin (by rw[RR.out];rfl) hqw
 ·have d1:decide (x< -1)=false:=decide_eq_false h1
  have RR:Hid (badP most x=decide (most≤x)):=zhd (by rw[HB.out,d1];rfl)
  clear h1
  go_enter Tryz.func69,Tryz.ntmps69
  go_wp2
  go_ret
  exact .fin (by rw[RR.out];rfl) hqw
theorem zex {S S2:Nat→Prop} {W:World} {vv vo:Value} {v outs:List Int} {f B6 B7:Nat} (h:Ints S W vv v) (ho:Ints S2 W vo outs) (hl:v.length≤outs.length) (h5:v.length≤5) (c7:W.cell? ⟨B7,0,none⟩=some vo) (c6:W.cell? ⟨B6,0,none⟩=some (.int .i64 f)):
  Calls Tryz.prog 72 #[vv,.pointer (some ⟨B7,0,none⟩),.pointer (some ⟨B6,0,none⟩)] W (QuietP W (.bool (agrB f outs v))):=by
 have KA:=zhd ((zdg (f:=f) h ho hl h5).mono fun _ _ h=>h.take)
 obtain ⟨va,vc,rfl,_⟩:=h.form
 obtain ⟨oa,oc,rfl,_⟩:=ho.form
 have l7:=World.block_lt_of_cell? _ _ c7
 have l6:=World.block_lt_of_cell? _ _ c6
 clear h ho
 go_enter Tryz.func72,Tryz.ntmps72
 go_wp2_with fail
 refine KA.out.mono ?_
 rintro _ w2 ⟨_,rfl,hq2,rfl⟩
 have HQ:=zhd hq2
 clear KA c7 c6 l7 l6 hq2
 go_wp2
 go_ret
 exact .fin rfl HQ.out
theorem zeI {S S2:Nat→Prop} {w:World} {vc vo:Value} {cs:List CaseD} {outs:List Int} {ins most:Int} {N i f:Nat} (hc:Sl kCase S w vc cs) (ho:Ints S2 w vo outs) (ht:checkT N ins most cs=0) (hi:i<cs.length) (hN:N≤5) (hf:f<2 ^ N) (hlen:outs.length=N) (hb:∀x∈outs,badP most x=false) (hv:∀v∈vecsOf (nthC cs i) f,v.length=N):
  Calls Tryz.prog 35 #[.agg #[.int .i64 N,.int .i64 ins,.int .i64 most,vc],.int .i64 i,.int .i64 f,vo] w (Post w fun _ r=>r=.tuple #[.bool (mayB (nthC cs i) f outs),.int .i64 0]):=by
 have KP:Hid (∀W,Below w.heap.size w W→Calls Tryz.prog 68 #[.agg #[.int .i64 N,.int .i64 ins,.int .i64 most,vc],.int .i64 i,.int .i64 f] W (Post W fun _ r=>r=.int .i64 0)):=zhd fun W hW=>zdh (hc.ext hW) ht hi hN hf
 have HC:=zhd hc
 have HO:=zhd ho
 obtain ⟨ca,cc,rfl,cad,_⟩:=hc.form
 obtain ⟨oa,oc,rfl,_⟩:=ho.form
 have HQC:=zhd (Xi cad)
 have HBB:Hid (outs.any (badP most)=false):=zhd (by rw[List.any_eq_false];intro x hx;rw[hb x hx];simp)
 have HVL:=zhd hv
 have HLEN:=zhd hlen
 have ex:=zg (zg (zb w (.cells #[.int .i64 N,.int .i64 ins,.int .i64 most,.slice ca cs.length cc] 24)) (.cells #[.int .i64 f] 3)) (.cells #[.slice oa outs.length oc] 30)
 have R:=((ze w [.int .i64 N,.int .i64 ins,.int .i64 most,.slice ca cs.length cc] 24).alloc (.cells #[.int .i64 f] 3)).alloc (.cells #[.slice oa outs.length oc] 30)
 have R6:=(ze (w.alloc (.cells #[.int .i64 N,.int .i64 ins,.int .i64 most,.slice ca cs.length cc] 24)) [.int .i64 f] 3).alloc (.cells #[.slice oa outs.length oc] 30)
 have R7:=ze ((w.alloc (.cells #[.int .i64 N,.int .i64 ins,.int .i64 most,.slice ca cs.length cc] 24)).alloc (.cells #[.int .i64 f] 3)) [.slice oa outs.length oc] 30
 simp only[World.size_alloc]at R6 R7
 have t0:=R.zc 0 rfl
 have t1:=R.zc 1 rfl
 have t2:=R.zc 2 rfl
 have t3:=R.zc 3 rfl
 have l0:=R.lt
 have c6:=R6.zc 0 rfl
 have l6:=R6.lt
 have HMB:Hid (mayB (nthC cs i) f outs=(vecsOf (nthC cs i) f).any (agrB f outs)):=zhd rfl
 obtain ⟨r,hr⟩:∃r,r=mayB (nthC cs i) f outs:=⟨_,rfl⟩
 rw[←hr]at HMB ⊢
 clear hc ho ht hf hb hv cad hr hlen
 go_enter Tryz.func35,Tryz.ntmps35
 go_wp2_with fail
 refine (KP.out _ ex).mono ?_
 rintro _ w1 ⟨_,rfl,hb1,rfl⟩
 replace R:=R.ext hb1
 replace R6:=R6.ext hb1
 replace R7:=R7.ext hb1
 replace ex:=za ex hb1
 clear t0 t1 t2 t3 l0 c6 l6 hb1 KP
 have t0:=R.zc 0 rfl
 have l0:=R.lt
 have c7:=R7.zc 0 rfl
 have l7:=R7.lt
 have d0:((outs.length:Int) !=(N:Int))=false:=by rw[HLEN.out];simp
 have KI:=zhd ((ym (HO.out.ext ex) (g:=69) (c0:=.pointer (some ⟨w.heap.size,0,none⟩)) (badP most) (by intro args w;rfl) fun W hW k hk=>by
  rw[←yq hk]
  exact zem W _ _ most ((R.ext hW.ext).zc 2 rfl)).mono fun _ _ h=>h.take)
 rw[HBB.out]at KI
 go_wp2_with fail
 refine KI.out.mono ?_
 rintro _ w2 ⟨_,rfl,hq2,rfl⟩
 replace R:=R.ext hq2.ext
 replace R6:=R6.ext hq2.ext
 replace R7:=R7.ext hq2.ext
 replace ex:=za ex hq2.ext
 clear t0 l0 c7 l7 KI hq2 d0
 obtain ⟨v1,v2,v3,e1,e2,e3,j1,j2,j3⟩:=(HC.out.ext ex).case hi
 obtain ⟨d1,k1,rfl,_⟩:=j1.form
 obtain ⟨d2,k2,rfl,_⟩:=j2.form
 obtain ⟨d3,k3,rfl,_⟩:=j3.form
 have qc:=HQC.out i hi
 have KAL:=zhd fun W (hW:Below w2.heap.size w2 W)=>ZX (f:=f) (j1.ext hW) (j2.ext hW) (j3.ext hW)
 have KCF:Hid (∀W vl,Below w2.heap.size w2 W→Lists S W vl (vecsOf (nthC cs i) f)→Calls Tryz.prog 70 #[vl,.func (.func 72) #[] #[.pointer (some ⟨w.heap.size+1+1,0,none⟩),.pointer (some ⟨w.heap.size+1,0,none⟩)]] W (QuietP W (.bool r))):=zhd fun W vl hW hl=>by
  rw[HMB.out]
  exact ZU hl (g:=72) (agrB f outs) (by intro args w;rfl) fun W5 hW5 k hk u hu=>by
   have hn:(nthL (vecsOf (nthC cs i) f) k).length=N:=HVL.out _ (by rw[zM hk];exact List.getElem_mem hk)
   rw[←zM hk]
   exact zex hu (((HO.out.ext ex).ext hW).ext hW5.ext) (by rw[hn,HLEN.out];exact Nat.le_refl _) (by rw[hn];exact hN) (((R7.ext hW).ext hW5.ext).zc 0 rfl) (((R6.ext hW).ext hW5.ext).zc 0 rfl)
 obtain ⟨l1,hl1⟩:∃l,l=(nthC cs i).inn.length:=⟨_,rfl⟩
 obtain ⟨l2,hl2⟩:∃l,l=(nthC cs i).out.length:=⟨_,rfl⟩
 obtain ⟨l3,hl3⟩:∃l,l=(nthC cs i).calm.length:=⟨_,rfl⟩
 rw[←hl1,←hl2,←hl3]at KAL
 rw[←hl1]at e1
 rw[←hl2]at e2
 rw[←hl3]at e3
 have KEEP:Hid (∀w',Below w2.heap.size w2 w'→(fun w':World=>w'.cell? ⟨w.heap.size,3,none⟩=some (.slice ca cs.length cc)∧w'.cell? ⟨w.heap.size+1,0,none⟩=some (.int .i64 f)∧w'.cell? (adr ca (i * 3))=some (.slice d1 l1 k1)∧w'.cell? ⟨(adr ca (i * 3)).block,(adr ca (i * 3)).off+1,none⟩=some (.slice d2 l2 k2)∧w'.cell? ⟨(adr ca (i * 3)).block,(adr ca (i * 3)).off+2,none⟩=some (.slice d3 l3 k3)) w'):=zhd fun w' hw=>⟨(R.ext hw).zc 3 rfl,(R6.ext hw).zc 0 rfl,zm e1 hw,zm e2 hw,zm e3 hw⟩
 have HEX:=zhd ex
 clear e1 e2 e3 j1 j2 j3 R R6 R7 hl1 hl2 hl3 ex
 go_wp2
 refine zH (fun w':World=>w'.cell? ⟨w.heap.size,3,none⟩=some (.slice ca cs.length cc)∧w'.cell? ⟨w.heap.size+1,0,none⟩=some (.int .i64 f)∧w'.cell? (adr ca (i * 3))=some (.slice d1 l1 k1)∧w'.cell? ⟨(adr ca (i * 3)).block,(adr ca (i * 3)).off+1,none⟩=some (.slice d2 l2 k2)∧w'.cell? ⟨(adr ca (i * 3)).block,(adr ca (i * 3)).off+2,none⟩=some (.slice d3 l3 k3)) (fun i=>false) (by kernel_rfl) ?_ (fun hHeld=>?_)
 ·exact KEEP.out _ (zh _ _ 1)
 refine anyE_take 0 (v:=?_) rfl (by kernel_rfl) (fun _ _ _ h=>h) (by rfl) ?hy0 hHeld ?r0
 case hy0=>(intro w hSw;(try dsimp only at hSw);go_simp;try with_reducible rfl)
 try simp only[Act.put,zsa,zsz,zss]
 refine anyE_take 1 (v:=?_) rfl (by kernel_rfl) (fun _ _ _ h=>h) (by rfl) ?hy1 hHeld ?r1
 case hy1=>(intro w hSw;(try dsimp only at hSw);go_simp;try with_reducible rfl)
 try simp only[Act.put,zsa,zsz,zss]
 refine anyE_take 2 (v:=?_) rfl (by kernel_rfl) (fun _ _ _ h=>h) (by rfl) ?hy2 hHeld ?r2
 case hy2=>(intro w hSw;(try dsimp only at hSw);go_simp;try with_reducible rfl)
 try simp only[Act.put,zsa,zsz,zss]
 refine anyE_take 3 (v:=?_) rfl (by kernel_rfl) (fun _ _ _ h=>h) (by rfl) ?hy3 hHeld ?r3
 case hy3=>(intro w hSw;(try dsimp only at hSw);go_simp;try with_reducible rfl)
 try simp only[Act.put,zsa,zsz,zss]
 refine anyE_take 4 (v:=?_) rfl (by kernel_rfl) (fun _ _ _ h=>h) (by rfl) ?hy4 hHeld ?r4
 case hy4=>(intro w hSw;(try dsimp only at hSw);go_simp;try with_reducible rfl)
 try simp only[Act.put,zsa,zsz,zss]
 refine anyE_take 5 (v:=?_) rfl (by kernel_rfl) (fun _ _ _ h=>h) (by rfl) ?hy5 hHeld ?r5
 case hy5=>(intro w hSw;(try dsimp only at hSw);go_simp;try with_reducible rfl)
 try simp only[Act.put,zsa,zsz,zss]
 refine anyE_take 7 (v:=?_) rfl (by kernel_rfl) (fun _ _ _ h=>h) (by rfl) ?hy7 hHeld ?r7
 case hy7=>(intro w hSw;(try dsimp only at hSw);go_simp;try with_reducible rfl)
 try simp only[Act.put,zsa,zsz,zss]
 refine anyE_one 6 rfl (by kernel_rfl) (fun K hK=>?_)
 (go_simp;go_at_call 71;refine (KAL.out _ (zh _ _ 1)).mono ?_;rintro _ w4 ⟨vl,rfl,hb4,hvl⟩;have y4:=za (zh _ _ 1) hb4;clear hb4;obtain ⟨la,lc,rfl,_⟩:=hvl.form)
 refine hK.out _ _ (fun _=>KEEP.out _ y4) (fun hHeld=>?_);replace hHeld:=hHeld rfl
 clear hK K
 try simp only[Act.put,zsa,zsz,zss]
 refine anyE_one 8 rfl (by kernel_rfl) (fun K hK=>?_)
 (go_simp;go_at_call 70;refine ((KCF.out _ _ y4 hvl).mono fun _ _ h=>h.take).mono ?_;rintro _ w5 ⟨_,rfl,hq5,rfl⟩;have y5:=za y4 hq5.ext;clear hq5)
 refine hK.out _ _ (fun _=>KEEP.out _ y5) (fun hHeld=>?_);replace hHeld:=hHeld rfl
 clear hK K
 try simp only[Act.put,zsa,zsz,zss]
 refine anyE_take 9 (v:=?_) rfl (by kernel_rfl) (fun _ _ _ h=>h) (by rfl) ?hy9 hHeld ?r9
 case hy9=>(intro w hSw;(try dsimp only at hSw);go_simp;try with_reducible rfl)
 try simp only[Act.put,zsa,zsz,zss]
 refine anyE_take 10 (v:=?_) rfl (by kernel_rfl) (fun _ _ _ h=>h) (by rfl) ?hy10 hHeld ?r10
 case hy10=>(intro w hSw;(try dsimp only at hSw);go_simp;try with_reducible rfl)
 try simp only[Act.put,zsa,zsz,zss]
 refine zy (by kernel_rfl) ?_ _
 have hb5:=zhd (za HEX.out y5)
 clear hHeld KEEP KAL KCF y4 y5 HEX qc hvl
 go_wp2
 go_ret2
 exact .mk hb5.out rfl
theorem zcg {s:SysF} {ch:List Int} (h:formE s ch=0) {e:Nat} {N K:Nat} (hg:GoodS s N K) (he:e<s.ex.length):∀x∈valsL ch (finL s e),badP s.p.outs x=false:=fun x hx=>by
 obtain ⟨y,hy,rfl⟩:=List.mem_map.1 hx
 obtain ⟨j,hj,e1⟩:=List.getElem_of_mem hy
 obtain ⟨hl,hv⟩:=hg.fin he
 obtain ⟨z,hz,hzl⟩:=hv j (by omega)
 rw[yq hj,e1]at hz
 subst hz
 have hlen:=zcV h
 unfold formE at h
 rw[if_pos hlen]at h
 have h2:=zX.1 h z (by omega)
 unfold frmV at h2
 rw[Int.toNat_natCast]
 unfold badP
 split at h2
 ·cases h2
 ·rw[decide_eq_false (by omega),decide_eq_false (by omega)];rfl
theorem Z9 {S S2:Nat→Prop} {w:World} {v vch:Value} {s:SysF} {ch:List Int} (h:SysV S w v s) (hf:PFew s.p) (h2:Ints S2 w vch ch):
  Calls Tryz.prog 16 #[v,.agg #[vch]] w (Post w fun _ r=>r=solV (solT s ch)):=by
 have KV:Hid (∀W,Below w.heap.size w W→Calls Tryz.prog 34 #[v,.agg #[vch]] W (Post W fun _ r=>r=.int .i64 (ruleE s ch))):=zhd fun W hW=>xU (h.ext hW) hf (h2.ext hW)
 have HG:Hid (ruleE s ch=0→GoodS s s.N s.K):=zhd fun h0=>qF (xf h0).1 h.moves8
 have KD:Hid (ruleE s ch=0→∀W,Below w.heap.size w W→∀e,e<s.ex.length→Calls Tryz.prog 24 #[v,.agg #[vch],.int .i64 e] W (Post W fun w' r=>Ints (fun b=>W.heap.size≤b) w' r (valsL ch (finL s e)))):=zhd fun h0 W hW e he=>ZO (h.ext hW) (HG.out h0) (h2.ext hW) (xf h0).2.1 he
 have HBD:Hid (ruleE s ch=0→∀e,e<s.ex.length→∀x∈valsL ch (finL s e),badP s.p.outs x=false):=zhd fun h0 e he=>zcg (xf h0).2.2 (HG.out h0) he
 obtain ⟨vc,vs,vt,vx,rfl,hc,hs,ht,hx⟩:=h
 obtain ⟨ca,cc,rfl,cad,_⟩:=hc.form
 obtain ⟨sa,sc,rfl,_⟩:=hs.form
 obtain ⟨ta,tc,rfl,_⟩:=ht.form
 obtain ⟨xa,xc,rfl,xad,_⟩:=hx.form2
 have hfew:=hx.few
 have HC:=zhd hc
 have HX:=zhd hx
 have HQ:=zhd (yg xad)
 obtain ⟨a2,c2,rfl,_⟩:=h2.form
 obtain ⟨ex,R0,R1⟩:=zb2 w [.int .i64 s.p.n,.int .i64 s.p.ins,.int .i64 s.p.outs,.slice ca s.p.cs.length cc,.int .i64 s.p.an,.slice sa s.p.st.length sc,.int .i64 s.p.rounds,.int .i64 s.tn,.slice ta s.tab.length tc,.slice xa s.ex.length xc] [.slice a2 ch.length c2] 39 32
 obtain ⟨t0,t1,t2,t3,t4,t5,t6,t7,t8,t9⟩:=R0.ten
 have r1:=R1.zc 0 rfl
 have l1:=R1.lt
 have l0:=R0.lt
 have HFE0:Hid (failE s ch=minT (fun e=> !okE s ch e) 0 (s.ex.length - 0)):=zhd rfl
 have HD:Hid ((ruleE s ch=0→failE s ch<0→solT s ch=(true,0,0))∧(ruleE s ch=0→0≤failE s ch→solT s ch=(false,failE s ch,0))∧(ruleE s ch≠0→solT s ch=(false,0,ruleE s ch))):=zhd ⟨fun h h1=>by unfold solT;rw[if_pos h,if_pos h1],fun h h1=>by unfold solT;rw[if_pos h,if_neg (by omega)],fun h=>by unfold solT;rw[if_neg h]⟩
 obtain ⟨mt,hmt⟩:∃x,x=solT s ch:=⟨_,rfl⟩
 obtain ⟨fe,hfe⟩:∃x,x=failE s ch:=⟨_,rfl⟩
 obtain ⟨ve,hve⟩:∃x,x=ruleE s ch:=⟨_,rfl⟩
 rw[←hmt]at HD ⊢
 rw[←hfe]at HD HFE0
 rw[←hve]at KV KD HD HG HBD
 clear hc hs ht hx h2 hf hve xad cad hmt hfe
 go_enter Tryz.func16,Tryz.ntmps16
 go_wp2_with fail
 refine (KV.out _ ex).mono ?_
 rintro _ w1 ⟨_,rfl,hb1,rfl⟩
 replace R0:=R0.ext hb1
 replace R1:=R1.ext hb1
 replace ex:=za ex hb1
 clear t0 t1 t2 t3 t4 t5 t6 t7 t8 t9 l0 r1 l1 hb1 KV
 by_cases hv0:ve=0
 case neg=>
  have d0:(ve !=0)=true:=by simp[hv0]
  have RE:=zhd (HD.out.2.2 hv0)
  clear hv0
  go_wp2
  go_ret3
  exact .mk ex (by rw[RE.out];rfl)
 have KD2:=zhd (KD.out hv0)
 have hg:=HG.out hv0
 have HBD2:=zhd (HBD.out hv0)
 have HDA:=zhd (HD.out.1 hv0)
 have HDB:=zhd (HD.out.2.1 hv0)
 have hN:=hg.pok.n1.2
 have HPK:=zhd hg.pok
 have HEX:=zhd hg.ex
 have HFY:=zhd fun e (he:e<s.ex.length)=>hg.flty he
 have HFN:=zhd fun e (he:e<s.ex.length)=>(hg.fin he).1
 have d0:(ve !=0)=false:=by simp[hv0]
 have t9:=R0.zc 9 rfl
 have l0:=R0.lt
 clear hv0 hg HG KD HBD HD
 go_wp2
 clear t9 l0 d0
 go_loopw [8,9,10,11,21] (fun _ _ _ _ j wr=>∃k:Nat,k≤s.ex.length∧j=.int .i64 k∧Below w.heap.size w wr∧Row wr w.heap.size 39 [.int .i64 s.p.n,.int .i64 s.p.ins,.int .i64 s.p.outs,.slice ca s.p.cs.length cc,.int .i64 s.p.an,.slice sa s.p.st.length sc,.int .i64 s.p.rounds,.int .i64 s.tn,.slice ta s.tab.length tc,.slice xa s.ex.length xc]∧Row wr (w.heap.size+1) 32 [.slice a2 ch.length c2]∧Hid (fe=minT (fun e=> !okE s ch e) k (s.ex.length - k))) (fun _ _ _ _ j _=>s.ex.length - (intOf j).toNat)
 case atStart=>exact ⟨0,Nat.zero_le _,rfl,ex,R0,R1,HFE0⟩
 case round=>
  clear ex R0 R1 HFE0
  obtain ⟨k,hk,rfl,hb,R0,R1,HFE⟩:=hrel
  by_cases hlt:k<s.ex.length
  case neg=>
   obtain rfl:k=s.ex.length:=by omega
   have RR:Hid (mt=(true,0,0)):=zhd (HDA.out (by rw[HFE.out,Nat.sub_self];exact (by decide:(-1:Int)<0)))
   go_wp2
   go_ret3
   exact .mk hb (by rw[RR.out];rfl)
  obtain ⟨i,hX⟩:=HEX.out k hlt
  have hcase:=hX.case
  have hic:=hX.clt
  obtain ⟨f,hf,hf2⟩:=HFY.out k hlt
  obtain ⟨a1,c1,a3,c3,z0,z1,z2,i1,i2⟩:=HX.out.exec hlt
  replace z0:=zm z0 hb
  replace z1:=zm z1 hb
  replace z2:=zm z2 hb
  have bk:=World.block_lt_of_cell? _ _ z0
  have q1:=HQ.out k hlt
  have HI1:=zhd (i1.ext hb)
  rw[Q4 (f:=fun e=> !okE s ch e) hlt]at HFE
  have HOK:Hid (okE s ch k=mayB (nthC s.p.cs i) f (valsL ch (finL s k))):=zhd (by unfold okE;rw[hcase,hf,Int.toNat_natCast,Int.toNat_natCast])
  have hvl:(valsL ch (finL s k)).length=s.N:=by rw[yO];exact HFN.out k hlt
  have HWF:=zhd hf
  have HIC:=zhd hic
  have HPN:Hid (s.p.n=(s.N:Int)):=zhd HPK.out.n
  have KPM:Hid (∀W vl,Below wr.heap.size wr W→Ints (fun b=>b<W.heap.size∨True) W vl (valsL ch (finL s k))→Calls Tryz.prog 35 #[.agg #[.int .i64 s.p.n,.int .i64 s.p.ins,.int .i64 s.p.outs,.slice ca s.p.cs.length cc],.int .i64 i,.int .i64 f,vl] W (Post W fun _ r=>r=.tuple #[.bool (okE s ch k),.int .i64 0])):=zhd fun W vl hW hl=>by
   rw[HOK.out,HPN.out]
   exact zeI (HC.out.ext (za hb hW)) hl (by rw[←HPN.out];exact HPK.out.t) HIC.out hN hf2 hvl (HBD2.out k hlt) fun v hv=>(HPK.out.vecs HIC.out v hv).1
  have KDC:=zhd fun W (hW:Below wr.heap.size wr W)=>KD2.out W (za hb hW) k hlt
  have hfk:∀x:Bool,(!okE s ch k)=x→fe=if x then (k:Int) else minT (fun e=> !okE s ch e) (k+1) (s.ex.length - (k+1)):=fun x hx=>by rw[HFE.out,hx]
  have HFK:=zhd hfk
  obtain ⟨ok,hok⟩:∃ok,ok=okE s ch k:=⟨_,rfl⟩
  rw[←hok]at KPM HFK
  obtain ⟨ls,hls⟩:∃ls,ls=valsL ch (finL s k):=⟨_,rfl⟩
  rw[←hls]at KPM KDC hvl
  rw[hcase]at z0
  obtain ⟨e,he⟩:∃e,e=nthX s.ex k:=⟨_,rfl⟩
  rw[←he]at z1 z2 HI1 HWF
  have HVL:=zhd hvl
  have RX:=ze wr [.int .i64 i,.slice a1 e.word.length c1,.slice a3 e.vs.length c3] 49
  have exA:=zb wr (.cells #[.int .i64 i,.slice a1 e.word.length c1,.slice a3 e.vs.length c3] 49)
  have R0A:=R0.alloc (.cells #[.int .i64 i,.slice a1 e.word.length c1,.slice a3 e.vs.length c3] 49)
  have R1A:=R1.alloc (.cells #[.int .i64 i,.slice a1 e.word.length c1,.slice a3 e.vs.length c3] 49)
  obtain ⟨wb,hwb⟩:∃wb,wb=wr.heap.size:=⟨_,rfl⟩
  clear hX hcase hf hok hls he hvl i1 i2 hfk hic hf2 HFE HOK
  go_wp2
  obtain ⟨w2,hw2⟩:∃w2,w2=wr.alloc (.cells #[.int .i64 i,.slice a1 e.word.length c1,.slice a3 e.vs.length c3] 49):=⟨_,rfl⟩
  rw[←hw2]at RX exA R0A R1A ⊢
  rw[←hwb]at RX ⊢
  have KFL:Hid (∀W,Below w2.heap.size w2 W→Calls Tryz.prog 36 #[.agg #[.int .i64 i,.slice a1 e.word.length c1,.slice a3 e.vs.length c3]] W (Post W fun _ r=>r=.int .i64 f)):=zhd fun W hW=>by
   have:=YY (va:=a3) (vn:=e.vs.length) (vc:=c3) (i:Int) (HI1.out.ext (za exA hW))
   rw[HWF.out]at this;exact this
  replace KDC:=zhd fun W (hW:Below w2.heap.size w2 W)=>KDC.out W (za exA hW)
  replace KPM:Hid (∀W vl,Below w2.heap.size w2 W→∀B,Ints (fun b=>B≤b) W vl ls→Calls Tryz.prog 35 #[.agg #[.int .i64 s.p.n,.int .i64 s.p.ins,.int .i64 s.p.outs,.slice ca s.p.cs.length cc],.int .i64 i,.int .i64 f,vl] W (Post W fun _ r=>r=.tuple #[.bool ok,.int .i64 0])):=zhd fun W vl hW B hl=>KPM.out W vl (za exA hW) (hl.mono fun b _=>.inr trivial)
  have KEEP:Hid (∀w',Below w2.heap.size w2 w'→(fun w':World=>w'.cell? ⟨w.heap.size,0,none⟩=some (.int .i64 s.p.n)∧w'.cell? ⟨w.heap.size,1,none⟩=some (.int .i64 s.p.ins)∧w'.cell? ⟨w.heap.size,2,none⟩=some (.int .i64 s.p.outs)∧w'.cell? ⟨w.heap.size,3,none⟩=some (.slice ca s.p.cs.length cc)∧w'.cell? ⟨w.heap.size,4,none⟩=some (.int .i64 s.p.an)∧w'.cell? ⟨w.heap.size,5,none⟩=some (.slice sa s.p.st.length sc)∧w'.cell? ⟨w.heap.size,6,none⟩=some (.int .i64 s.p.rounds)∧w'.cell? ⟨w.heap.size,7,none⟩=some (.int .i64 s.tn)∧w'.cell? ⟨w.heap.size,8,none⟩=some (.slice ta s.tab.length tc)∧w'.cell? ⟨w.heap.size,9,none⟩=some (.slice xa s.ex.length xc)∧w'.cell? ⟨w.heap.size+1,0,none⟩=some (.slice a2 ch.length c2)∧w'.cell? ⟨wb,0,none⟩=some (.int .i64 i)∧w'.cell? ⟨wb,1,none⟩=some (.slice a1 e.word.length c1)∧w'.cell? ⟨wb,2,none⟩=some (.slice a3 e.vs.length c3)) w'):=zhd fun w' hw=>⟨(R0A.ext hw).zc 0 rfl,(R0A.ext hw).zc 1 rfl,(R0A.ext hw).zc 2 rfl,(R0A.ext hw).zc 3 rfl,(R0A.ext hw).zc 4 rfl,(R0A.ext hw).zc 5 rfl,(R0A.ext hw).zc 6 rfl,(R0A.ext hw).zc 7 rfl,(R0A.ext hw).zc 8 rfl,(R0A.ext hw).zc 9 rfl,(R1A.ext hw).zc 0 rfl,(RX.ext hw).zc 0 rfl,(RX.ext hw).zc 1 rfl,(RX.ext hw).zc 2 rfl⟩
  have HR0:=zhd R0A
  have HR1:=zhd R1A
  have HB:=zhd (za hb exA)
  clear RX R0A R1A R0 R1 hb exA z0 z1 z2 bk q1 hw2 hwb HI1
  refine zH (fun w':World=>w'.cell? ⟨w.heap.size,0,none⟩=some (.int .i64 s.p.n)∧w'.cell? ⟨w.heap.size,1,none⟩=some (.int .i64 s.p.ins)∧w'.cell? ⟨w.heap.size,2,none⟩=some (.int .i64 s.p.outs)∧w'.cell? ⟨w.heap.size,3,none⟩=some (.slice ca s.p.cs.length cc)∧w'.cell? ⟨w.heap.size,4,none⟩=some (.int .i64 s.p.an)∧w'.cell? ⟨w.heap.size,5,none⟩=some (.slice sa s.p.st.length sc)∧w'.cell? ⟨w.heap.size,6,none⟩=some (.int .i64 s.p.rounds)∧w'.cell? ⟨w.heap.size,7,none⟩=some (.int .i64 s.tn)∧w'.cell? ⟨w.heap.size,8,none⟩=some (.slice ta s.tab.length tc)∧w'.cell? ⟨w.heap.size,9,none⟩=some (.slice xa s.ex.length xc)∧w'.cell? ⟨w.heap.size+1,0,none⟩=some (.slice a2 ch.length c2)∧w'.cell? ⟨wb,0,none⟩=some (.int .i64 i)∧w'.cell? ⟨wb,1,none⟩=some (.slice a1 e.word.length c1)∧w'.cell? ⟨wb,2,none⟩=some (.slice a3 e.vs.length c3)) (fun i=>false) (by kernel_rfl) ?_ (fun hHeld=>?_)
  ·exact KEEP.out _ (zh _ _ 1)
  refine anyE_take 0 (v:=?_) rfl (by kernel_rfl) (fun _ _ _ h=>h) (by rfl) ?hy0 hHeld ?r0
  case hy0=>(intro w hSw;(try dsimp only at hSw);go_simp;try with_reducible rfl)
  try simp only[Act.put,zsa,zsz,zss]
  refine anyE_take 1 (v:=?_) rfl (by kernel_rfl) (fun _ _ _ h=>h) (by rfl) ?hy1 hHeld ?r1
  case hy1=>(intro w hSw;(try dsimp only at hSw);go_simp;try with_reducible rfl)
  try simp only[Act.put,zsa,zsz,zss]
  refine anyE_take 2 (v:=?_) rfl (by kernel_rfl) (fun _ _ _ h=>h) (by rfl) ?hy2 hHeld ?r2
  case hy2=>(intro w hSw;(try dsimp only at hSw);go_simp;try with_reducible rfl)
  try simp only[Act.put,zsa,zsz,zss]
  refine anyE_take 3 (v:=?_) rfl (by kernel_rfl) (fun _ _ _ h=>h) (by rfl) ?hy3 hHeld ?r3
  case hy3=>(intro w hSw;(try dsimp only at hSw);go_simp;try with_reducible rfl)
  try simp only[Act.put,zsa,zsz,zss]
  refine anyE_take 4 (v:=?_) rfl (by kernel_rfl) (fun _ _ _ h=>h) (by rfl) ?hy4 hHeld ?r4
  case hy4=>(intro w hSw;(try dsimp only at hSw);go_simp;try with_reducible rfl)
  try simp only[Act.put,zsa,zsz,zss]
  refine anyE_take 5 (v:=?_) rfl (by kernel_rfl) (fun _ _ _ h=>h) (by rfl) ?hy5 hHeld ?r5
  case hy5=>(intro w hSw;(try dsimp only at hSw);go_simp;try with_reducible rfl)
  try simp only[Act.put,zsa,zsz,zss]
  refine anyE_take 7 (v:=?_) rfl (by kernel_rfl) (fun _ _ _ h=>h) (by rfl) ?hy7 hHeld ?r7
  case hy7=>(intro w hSw;(try dsimp only at hSw);go_simp;try with_reducible rfl)
  try simp only[Act.put,zsa,zsz,zss]
  refine anyE_take 8 (v:=?_) rfl (by kernel_rfl) (fun _ _ _ h=>h) (by rfl) ?hy8 hHeld ?r8
  case hy8=>(intro w hSw;(try dsimp only at hSw);go_simp;try with_reducible rfl)
  try simp only[Act.put,zsa,zsz,zss]
  refine anyE_take 9 (v:=?_) rfl (by kernel_rfl) (fun _ _ _ h=>h) (by rfl) ?hy9 hHeld ?r9
  case hy9=>(intro w hSw;(try dsimp only at hSw);go_simp;try with_reducible rfl)
  try simp only[Act.put,zsa,zsz,zss]
  refine anyE_one 6 rfl (by kernel_rfl) (fun K hK=>?_)
  (go_simp;go_at_call 36;refine (KFL.out _ (zh _ _ 1)).mono ?_;rintro _ w4 ⟨_,rfl,hb4,rfl⟩;have y4:=za (zh _ _ 1) hb4;clear hb4)
  refine hK.out _ _ (fun _=>KEEP.out _ y4) (fun hHeld=>?_);replace hHeld:=hHeld rfl
  clear hK K
  try simp only[Act.put,zsa,zsz,zss]
  refine anyE_one 10 rfl (by kernel_rfl) (fun K hK=>?_)
  (go_simp;go_at_call 24;refine (KDC.out _ y4).mono ?_;rintro _ w5 ⟨vl,rfl,hb5,hvl⟩;have y5:=za y4 hb5;clear hb5;obtain ⟨la,lc,rfl,_⟩:=hvl.form)
  refine hK.out _ _ (fun _=>KEEP.out _ y5) (fun hHeld=>?_);replace hHeld:=hHeld rfl
  clear hK K
  try simp only[Act.put,zsa,zsz,zss]
  refine anyE_one 11 rfl (by kernel_rfl) (fun K hK=>?_)
  (go_simp;go_at_call 35;refine (KPM.out _ _ y5 _ hvl).mono ?_;rintro _ w6 ⟨_,rfl,hb6,rfl⟩;have y6:=za y5 hb6;clear hb6)
  refine hK.out _ _ (fun _=>KEEP.out _ y6) (fun hHeld=>?_);replace hHeld:=hHeld rfl
  clear hK K
  try simp only[Act.put,zsa,zsz,zss]
  refine anyE_take 12 (v:=?_) rfl (by kernel_rfl) (fun _ _ _ h=>h) (by rfl) ?hy12 hHeld ?r12
  case hy12=>(intro w hSw;(try dsimp only at hSw);go_simp;try with_reducible rfl)
  try simp only[Act.put,zsa,zsz,zss]
  refine anyE_take 13 (v:=?_) rfl (by kernel_rfl) (fun _ _ _ h=>h) (by rfl) ?hy13 hHeld ?r13
  case hy13=>(intro w hSw;(try dsimp only at hSw);go_simp;try with_reducible rfl)
  try simp only[Act.put,zsa,zsz,zss]
  refine anyE_take 14 (v:=?_) rfl (by kernel_rfl) (fun _ _ _ h=>h) (by rfl) ?hy14 hHeld ?r14
  case hy14=>(intro w hSw;(try dsimp only at hSw);go_simp;try with_reducible rfl)
  try simp only[Act.put,zsa,zsz,zss]
  refine anyE_take 15 (v:=?_) rfl (by kernel_rfl) (fun _ _ _ h=>h) (by rfl) ?hy15 hHeld ?r15
  case hy15=>(intro w hSw;(try dsimp only at hSw);go_simp;try with_reducible rfl)
  try simp only[Act.put,zsa,zsz,zss]
  refine anyE_take 16 (v:=?_) rfl (by kernel_rfl) (fun _ _ _ h=>h) (by rfl) ?hy16 hHeld ?r16
  case hy16=>(intro w hSw;(try dsimp only at hSw);go_simp;try with_reducible rfl)
  try simp only[Act.put,zsa,zsz,zss]
  refine zy (by kernel_rfl) ?_ _
  have R06:=HR0.out.ext y6
  have R16:=HR1.out.ext y6
  have hb6:=za HB.out y6
  clear hHeld KEEP KFL KDC KPM y4 y5 y6 HR0 HR1 HB hvl
  have d0:((0:Int) !=0)=false:=rfl
  cases ok with
  | true=>
   have HF2:=zhd (HFK.out false rfl)
   go_wp2
   go_roundw
   case rel=>exact ⟨k+1,by omega,by go_num,hb6,R06,R16,HF2⟩
   case measure=>simp[intOf];omega
  | false=>
   have HF2:=zhd (HFK.out true rfl)
   have RR:Hid (mt=(false,(k:Int),0)):=zhd (by rw[←show fe=(k:Int) from HF2.out];exact HDB.out (by rw[show fe=(k:Int) from HF2.out];omega))
   go_wp2
   go_ret3
   exact .mk hb6 (by rw[RR.out];rfl)
def dcP:ProbD:=⟨1,2,2,[([0],[[0]],[]),([1],[[1]],[])],1,[[[1,1,0,0,0,0,0,0]]],0⟩
theorem zdI:buildE dcP=0:=by decide+kernel
theorem zcy:FewP dcP:=⟨by refine ⟨by decide,fun k hk=>?_⟩;match k,hk with | 0,_=>exact ⟨by decide,⟨by decide,by decide⟩,⟨by decide,by decide⟩⟩ | 1,_=>exact ⟨by decide,⟨by decide,by decide⟩,⟨by decide,by decide⟩⟩ | k+2,h=>exact absurd h (by simp[dcP]),by decide+kernel,by decide,fun _=>.inl (by decide+kernel)⟩
theorem zeL:solT dcP.full [0,1]=(true,0,0):=by decide+kernel
theorem zeY:solT dcP.full [1,1]=(false,0,0):=by decide+kernel
theorem Q9 (w:World):Calls Tryz.prog 4 #[] w (Post w fun _ r=>r=.bool true):=by
 have B0:=((((((((((ze w [.int .i64 0] 3).alloc (.cells #[.int .i64 0] 3)).alloc (.cells #[.slice (some ⟨w.heap.size+1,0,none⟩) 1 1] 30)).alloc (.cells #[.int .i64 1] 3)).alloc (.cells #[.int .i64 1] 3)).alloc (.cells #[.slice (some ⟨w.heap.size+1+1+1+1,0,none⟩) 1 1] 30)).alloc (.cells #[.slice (some ⟨w.heap.size,0,none⟩) 1 1,.slice (some ⟨w.heap.size+1+1,0,none⟩) 1 1,.slice none 0 0,.slice (some ⟨w.heap.size+1+1+1,0,none⟩) 1 1,.slice (some ⟨w.heap.size+1+1+1+1+1,0,none⟩) 1 1,.slice none 0 0] 62)).alloc (.cells #[.int .i64 1,.int .i64 2,.int .i64 2,.slice (some ⟨w.heap.size+1+1+1+1+1+1,0,none⟩) 2 2] 24)).alloc (.cells #[.int .i64 1,.int .i64 1,.int .i64 0,.int .i64 0,.int .i64 0,.int .i64 0,.int .i64 0,.int .i64 0] 69)).alloc (.cells #[.slice (some ⟨w.heap.size+1+1+1+1+1+1+1+1,0,none⟩) 1 1] 70)).alloc (.cells #[.int .i64 1,.slice (some ⟨w.heap.size+1+1+1+1+1+1+1+1+1,0,none⟩) 1 1] 27)
 have B1:=(((((((((ze (w.alloc (.cells #[.int .i64 0] 3)) [.int .i64 0] 3).alloc (.cells #[.slice (some ⟨w.heap.size+1,0,none⟩) 1 1] 30)).alloc (.cells #[.int .i64 1] 3)).alloc (.cells #[.int .i64 1] 3)).alloc (.cells #[.slice (some ⟨w.heap.size+1+1+1+1,0,none⟩) 1 1] 30)).alloc (.cells #[.slice (some ⟨w.heap.size,0,none⟩) 1 1,.slice (some ⟨w.heap.size+1+1,0,none⟩) 1 1,.slice none 0 0,.slice (some ⟨w.heap.size+1+1+1,0,none⟩) 1 1,.slice (some ⟨w.heap.size+1+1+1+1+1,0,none⟩) 1 1,.slice none 0 0] 62)).alloc (.cells #[.int .i64 1,.int .i64 2,.int .i64 2,.slice (some ⟨w.heap.size+1+1+1+1+1+1,0,none⟩) 2 2] 24)).alloc (.cells #[.int .i64 1,.int .i64 1,.int .i64 0,.int .i64 0,.int .i64 0,.int .i64 0,.int .i64 0,.int .i64 0] 69)).alloc (.cells #[.slice (some ⟨w.heap.size+1+1+1+1+1+1+1+1,0,none⟩) 1 1] 70)).alloc (.cells #[.int .i64 1,.slice (some ⟨w.heap.size+1+1+1+1+1+1+1+1+1,0,none⟩) 1 1] 27)
 have B2:=((((((((ze ((w.alloc (.cells #[.int .i64 0] 3)).alloc (.cells #[.int .i64 0] 3)) [.slice (some ⟨w.heap.size+1,0,none⟩) 1 1] 30).alloc (.cells #[.int .i64 1] 3)).alloc (.cells #[.int .i64 1] 3)).alloc (.cells #[.slice (some ⟨w.heap.size+1+1+1+1,0,none⟩) 1 1] 30)).alloc (.cells #[.slice (some ⟨w.heap.size,0,none⟩) 1 1,.slice (some ⟨w.heap.size+1+1,0,none⟩) 1 1,.slice none 0 0,.slice (some ⟨w.heap.size+1+1+1,0,none⟩) 1 1,.slice (some ⟨w.heap.size+1+1+1+1+1,0,none⟩) 1 1,.slice none 0 0] 62)).alloc (.cells #[.int .i64 1,.int .i64 2,.int .i64 2,.slice (some ⟨w.heap.size+1+1+1+1+1+1,0,none⟩) 2 2] 24)).alloc (.cells #[.int .i64 1,.int .i64 1,.int .i64 0,.int .i64 0,.int .i64 0,.int .i64 0,.int .i64 0,.int .i64 0] 69)).alloc (.cells #[.slice (some ⟨w.heap.size+1+1+1+1+1+1+1+1,0,none⟩) 1 1] 70)).alloc (.cells #[.int .i64 1,.slice (some ⟨w.heap.size+1+1+1+1+1+1+1+1+1,0,none⟩) 1 1] 27)
 have B3:=(((((((ze (((w.alloc (.cells #[.int .i64 0] 3)).alloc (.cells #[.int .i64 0] 3)).alloc (.cells #[.slice (some ⟨w.heap.size+1,0,none⟩) 1 1] 30)) [.int .i64 1] 3).alloc (.cells #[.int .i64 1] 3)).alloc (.cells #[.slice (some ⟨w.heap.size+1+1+1+1,0,none⟩) 1 1] 30)).alloc (.cells #[.slice (some ⟨w.heap.size,0,none⟩) 1 1,.slice (some ⟨w.heap.size+1+1,0,none⟩) 1 1,.slice none 0 0,.slice (some ⟨w.heap.size+1+1+1,0,none⟩) 1 1,.slice (some ⟨w.heap.size+1+1+1+1+1,0,none⟩) 1 1,.slice none 0 0] 62)).alloc (.cells #[.int .i64 1,.int .i64 2,.int .i64 2,.slice (some ⟨w.heap.size+1+1+1+1+1+1,0,none⟩) 2 2] 24)).alloc (.cells #[.int .i64 1,.int .i64 1,.int .i64 0,.int .i64 0,.int .i64 0,.int .i64 0,.int .i64 0,.int .i64 0] 69)).alloc (.cells #[.slice (some ⟨w.heap.size+1+1+1+1+1+1+1+1,0,none⟩) 1 1] 70)).alloc (.cells #[.int .i64 1,.slice (some ⟨w.heap.size+1+1+1+1+1+1+1+1+1,0,none⟩) 1 1] 27)
 have B4:=((((((ze ((((w.alloc (.cells #[.int .i64 0] 3)).alloc (.cells #[.int .i64 0] 3)).alloc (.cells #[.slice (some ⟨w.heap.size+1,0,none⟩) 1 1] 30)).alloc (.cells #[.int .i64 1] 3)) [.int .i64 1] 3).alloc (.cells #[.slice (some ⟨w.heap.size+1+1+1+1,0,none⟩) 1 1] 30)).alloc (.cells #[.slice (some ⟨w.heap.size,0,none⟩) 1 1,.slice (some ⟨w.heap.size+1+1,0,none⟩) 1 1,.slice none 0 0,.slice (some ⟨w.heap.size+1+1+1,0,none⟩) 1 1,.slice (some ⟨w.heap.size+1+1+1+1+1,0,none⟩) 1 1,.slice none 0 0] 62)).alloc (.cells #[.int .i64 1,.int .i64 2,.int .i64 2,.slice (some ⟨w.heap.size+1+1+1+1+1+1,0,none⟩) 2 2] 24)).alloc (.cells #[.int .i64 1,.int .i64 1,.int .i64 0,.int .i64 0,.int .i64 0,.int .i64 0,.int .i64 0,.int .i64 0] 69)).alloc (.cells #[.slice (some ⟨w.heap.size+1+1+1+1+1+1+1+1,0,none⟩) 1 1] 70)).alloc (.cells #[.int .i64 1,.slice (some ⟨w.heap.size+1+1+1+1+1+1+1+1+1,0,none⟩) 1 1] 27)
 have B5:=(((((ze (((((w.alloc (.cells #[.int .i64 0] 3)).alloc (.cells #[.int .i64 0] 3)).alloc (.cells #[.slice (some ⟨w.heap.size+1,0,none⟩) 1 1] 30)).alloc (.cells #[.int .i64 1] 3)).alloc (.cells #[.int .i64 1] 3)) [.slice (some ⟨w.heap.size+1+1+1+1,0,none⟩) 1 1] 30).alloc (.cells #[.slice (some ⟨w.heap.size,0,none⟩) 1 1,.slice (some ⟨w.heap.size+1+1,0,none⟩) 1 1,.slice none 0 0,.slice (some ⟨w.heap.size+1+1+1,0,none⟩) 1 1,.slice (some ⟨w.heap.size+1+1+1+1+1,0,none⟩) 1 1,.slice none 0 0] 62)).alloc (.cells #[.int .i64 1,.int .i64 2,.int .i64 2,.slice (some ⟨w.heap.size+1+1+1+1+1+1,0,none⟩) 2 2] 24)).alloc (.cells #[.int .i64 1,.int .i64 1,.int .i64 0,.int .i64 0,.int .i64 0,.int .i64 0,.int .i64 0,.int .i64 0] 69)).alloc (.cells #[.slice (some ⟨w.heap.size+1+1+1+1+1+1+1+1,0,none⟩) 1 1] 70)).alloc (.cells #[.int .i64 1,.slice (some ⟨w.heap.size+1+1+1+1+1+1+1+1+1,0,none⟩) 1 1] 27)
 have B6:=((((ze ((((((w.alloc (.cells #[.int .i64 0] 3)).alloc (.cells #[.int .i64 0] 3)).alloc (.cells #[.slice (some ⟨w.heap.size+1,0,none⟩) 1 1] 30)).alloc (.cells #[.int .i64 1] 3)).alloc (.cells #[.int .i64 1] 3)).alloc (.cells #[.slice (some ⟨w.heap.size+1+1+1+1,0,none⟩) 1 1] 30)) [.slice (some ⟨w.heap.size,0,none⟩) 1 1,.slice (some ⟨w.heap.size+1+1,0,none⟩) 1 1,.slice none 0 0,.slice (some ⟨w.heap.size+1+1+1,0,none⟩) 1 1,.slice (some ⟨w.heap.size+1+1+1+1+1,0,none⟩) 1 1,.slice none 0 0] 62).alloc (.cells #[.int .i64 1,.int .i64 2,.int .i64 2,.slice (some ⟨w.heap.size+1+1+1+1+1+1,0,none⟩) 2 2] 24)).alloc (.cells #[.int .i64 1,.int .i64 1,.int .i64 0,.int .i64 0,.int .i64 0,.int .i64 0,.int .i64 0,.int .i64 0] 69)).alloc (.cells #[.slice (some ⟨w.heap.size+1+1+1+1+1+1+1+1,0,none⟩) 1 1] 70)).alloc (.cells #[.int .i64 1,.slice (some ⟨w.heap.size+1+1+1+1+1+1+1+1+1,0,none⟩) 1 1] 27)
 have B7:=(((ze (((((((w.alloc (.cells #[.int .i64 0] 3)).alloc (.cells #[.int .i64 0] 3)).alloc (.cells #[.slice (some ⟨w.heap.size+1,0,none⟩) 1 1] 30)).alloc (.cells #[.int .i64 1] 3)).alloc (.cells #[.int .i64 1] 3)).alloc (.cells #[.slice (some ⟨w.heap.size+1+1+1+1,0,none⟩) 1 1] 30)).alloc (.cells #[.slice (some ⟨w.heap.size,0,none⟩) 1 1,.slice (some ⟨w.heap.size+1+1,0,none⟩) 1 1,.slice none 0 0,.slice (some ⟨w.heap.size+1+1+1,0,none⟩) 1 1,.slice (some ⟨w.heap.size+1+1+1+1+1,0,none⟩) 1 1,.slice none 0 0] 62)) [.int .i64 1,.int .i64 2,.int .i64 2,.slice (some ⟨w.heap.size+1+1+1+1+1+1,0,none⟩) 2 2] 24).alloc (.cells #[.int .i64 1,.int .i64 1,.int .i64 0,.int .i64 0,.int .i64 0,.int .i64 0,.int .i64 0,.int .i64 0] 69)).alloc (.cells #[.slice (some ⟨w.heap.size+1+1+1+1+1+1+1+1,0,none⟩) 1 1] 70)).alloc (.cells #[.int .i64 1,.slice (some ⟨w.heap.size+1+1+1+1+1+1+1+1+1,0,none⟩) 1 1] 27)
 have B8:=((ze ((((((((w.alloc (.cells #[.int .i64 0] 3)).alloc (.cells #[.int .i64 0] 3)).alloc (.cells #[.slice (some ⟨w.heap.size+1,0,none⟩) 1 1] 30)).alloc (.cells #[.int .i64 1] 3)).alloc (.cells #[.int .i64 1] 3)).alloc (.cells #[.slice (some ⟨w.heap.size+1+1+1+1,0,none⟩) 1 1] 30)).alloc (.cells #[.slice (some ⟨w.heap.size,0,none⟩) 1 1,.slice (some ⟨w.heap.size+1+1,0,none⟩) 1 1,.slice none 0 0,.slice (some ⟨w.heap.size+1+1+1,0,none⟩) 1 1,.slice (some ⟨w.heap.size+1+1+1+1+1,0,none⟩) 1 1,.slice none 0 0] 62)).alloc (.cells #[.int .i64 1,.int .i64 2,.int .i64 2,.slice (some ⟨w.heap.size+1+1+1+1+1+1,0,none⟩) 2 2] 24)) [.int .i64 1,.int .i64 1,.int .i64 0,.int .i64 0,.int .i64 0,.int .i64 0,.int .i64 0,.int .i64 0] 69).alloc (.cells #[.slice (some ⟨w.heap.size+1+1+1+1+1+1+1+1,0,none⟩) 1 1] 70)).alloc (.cells #[.int .i64 1,.slice (some ⟨w.heap.size+1+1+1+1+1+1+1+1+1,0,none⟩) 1 1] 27)
 have B9:=(ze (((((((((w.alloc (.cells #[.int .i64 0] 3)).alloc (.cells #[.int .i64 0] 3)).alloc (.cells #[.slice (some ⟨w.heap.size+1,0,none⟩) 1 1] 30)).alloc (.cells #[.int .i64 1] 3)).alloc (.cells #[.int .i64 1] 3)).alloc (.cells #[.slice (some ⟨w.heap.size+1+1+1+1,0,none⟩) 1 1] 30)).alloc (.cells #[.slice (some ⟨w.heap.size,0,none⟩) 1 1,.slice (some ⟨w.heap.size+1+1,0,none⟩) 1 1,.slice none 0 0,.slice (some ⟨w.heap.size+1+1+1,0,none⟩) 1 1,.slice (some ⟨w.heap.size+1+1+1+1+1,0,none⟩) 1 1,.slice none 0 0] 62)).alloc (.cells #[.int .i64 1,.int .i64 2,.int .i64 2,.slice (some ⟨w.heap.size+1+1+1+1+1+1,0,none⟩) 2 2] 24)).alloc (.cells #[.int .i64 1,.int .i64 1,.int .i64 0,.int .i64 0,.int .i64 0,.int .i64 0,.int .i64 0,.int .i64 0] 69)) [.slice (some ⟨w.heap.size+1+1+1+1+1+1+1+1,0,none⟩) 1 1] 70).alloc (.cells #[.int .i64 1,.slice (some ⟨w.heap.size+1+1+1+1+1+1+1+1+1,0,none⟩) 1 1] 27)
 have B10:=ze ((((((((((w.alloc (.cells #[.int .i64 0] 3)).alloc (.cells #[.int .i64 0] 3)).alloc (.cells #[.slice (some ⟨w.heap.size+1,0,none⟩) 1 1] 30)).alloc (.cells #[.int .i64 1] 3)).alloc (.cells #[.int .i64 1] 3)).alloc (.cells #[.slice (some ⟨w.heap.size+1+1+1+1,0,none⟩) 1 1] 30)).alloc (.cells #[.slice (some ⟨w.heap.size,0,none⟩) 1 1,.slice (some ⟨w.heap.size+1+1,0,none⟩) 1 1,.slice none 0 0,.slice (some ⟨w.heap.size+1+1+1,0,none⟩) 1 1,.slice (some ⟨w.heap.size+1+1+1+1+1,0,none⟩) 1 1,.slice none 0 0] 62)).alloc (.cells #[.int .i64 1,.int .i64 2,.int .i64 2,.slice (some ⟨w.heap.size+1+1+1+1+1+1,0,none⟩) 2 2] 24)).alloc (.cells #[.int .i64 1,.int .i64 1,.int .i64 0,.int .i64 0,.int .i64 0,.int .i64 0,.int .i64 0,.int .i64 0] 69)).alloc (.cells #[.slice (some ⟨w.heap.size+1+1+1+1+1+1+1+1,0,none⟩) 1 1] 70)) [.int .i64 1,.slice (some ⟨w.heap.size+1+1+1+1+1+1+1+1+1,0,none⟩) 1 1] 27
 have ex:Below w.heap.size w (((((((((((w.alloc (.cells #[.int .i64 0] 3)).alloc (.cells #[.int .i64 0] 3)).alloc (.cells #[.slice (some ⟨w.heap.size+1,0,none⟩) 1 1] 30)).alloc (.cells #[.int .i64 1] 3)).alloc (.cells #[.int .i64 1] 3)).alloc (.cells #[.slice (some ⟨w.heap.size+1+1+1+1,0,none⟩) 1 1] 30)).alloc (.cells #[.slice (some ⟨w.heap.size,0,none⟩) 1 1,.slice (some ⟨w.heap.size+1+1,0,none⟩) 1 1,.slice none 0 0,.slice (some ⟨w.heap.size+1+1+1,0,none⟩) 1 1,.slice (some ⟨w.heap.size+1+1+1+1+1,0,none⟩) 1 1,.slice none 0 0] 62)).alloc (.cells #[.int .i64 1,.int .i64 2,.int .i64 2,.slice (some ⟨w.heap.size+1+1+1+1+1+1,0,none⟩) 2 2] 24)).alloc (.cells #[.int .i64 1,.int .i64 1,.int .i64 0,.int .i64 0,.int .i64 0,.int .i64 0,.int .i64 0,.int .i64 0] 69)).alloc (.cells #[.slice (some ⟨w.heap.size+1+1+1+1+1+1+1+1,0,none⟩) 1 1] 70)).alloc (.cells #[.int .i64 1,.slice (some ⟨w.heap.size+1+1+1+1+1+1+1+1+1,0,none⟩) 1 1] 27)):=zg (zg (zg (zg (zg (zg (zg (zg (zg (zg (zb w _) _) _) _) _) _) _) _) _) _) _
 simp only[World.size_alloc]at B1 B2 B3 B4 B5 B6 B7 B8 B9 B10
 obtain ⟨w1,hw1⟩:∃w1,w1=(((((((((((w.alloc (.cells #[.int .i64 0] 3)).alloc (.cells #[.int .i64 0] 3)).alloc (.cells #[.slice (some ⟨w.heap.size+1,0,none⟩) 1 1] 30)).alloc (.cells #[.int .i64 1] 3)).alloc (.cells #[.int .i64 1] 3)).alloc (.cells #[.slice (some ⟨w.heap.size+1+1+1+1,0,none⟩) 1 1] 30)).alloc (.cells #[.slice (some ⟨w.heap.size,0,none⟩) 1 1,.slice (some ⟨w.heap.size+1+1,0,none⟩) 1 1,.slice none 0 0,.slice (some ⟨w.heap.size+1+1+1,0,none⟩) 1 1,.slice (some ⟨w.heap.size+1+1+1+1+1,0,none⟩) 1 1,.slice none 0 0] 62)).alloc (.cells #[.int .i64 1,.int .i64 2,.int .i64 2,.slice (some ⟨w.heap.size+1+1+1+1+1+1,0,none⟩) 2 2] 24)).alloc (.cells #[.int .i64 1,.int .i64 1,.int .i64 0,.int .i64 0,.int .i64 0,.int .i64 0,.int .i64 0,.int .i64 0] 69)).alloc (.cells #[.slice (some ⟨w.heap.size+1+1+1+1+1+1+1+1,0,none⟩) 1 1] 70)).alloc (.cells #[.int .i64 1,.slice (some ⟨w.heap.size+1+1+1+1+1+1+1+1+1,0,none⟩) 1 1] 27)):=⟨_,rfl⟩
 rw[←hw1]at B0 B1 B2 B3 B4 B5 B6 B7 B8 B9 B10 ex
 have HW1:=zhd hw1
 have i0:=(Row.ints (l:=[0]) B0 (by decide) (by intro x hx;simp at hx;unfold WF;omega)).mono (S':=(fun _=>True)) (fun _ _=>trivial)
 have i1:=(Row.ints (l:=[0]) B1 (by decide) (by intro x hx;simp at hx;unfold WF;omega)).mono (S':=(fun _=>True)) (fun _ _=>trivial)
 have i3:=(Row.ints (l:=[1]) B3 (by decide) (by intro x hx;simp at hx;unfold WF;omega)).mono (S':=(fun _=>True)) (fun _ _=>trivial)
 have i4:=(Row.ints (l:=[1]) B4 (by decide) (by intro x hx;simp at hx;unfold WF;omega)).mono (S':=(fun _=>True)) (fun _ _=>trivial)
 have j2:=lists25 (S:=(fun _=>True)) B2 trivial i1
 have j5:=lists25 (S:=(fun _=>True)) B5 trivial i4
 have jn:=fun W=>Lists.nil (fun _=>True) W
 have kc:=YM (K:=kCase) (S:=(fun _=>True)) (l:=dcP.cs) [[.slice (some ⟨w.heap.size,0,none⟩) 1 1,.slice (some ⟨w.heap.size+1+1,0,none⟩) 1 1,.slice none 0 0],[.slice (some ⟨w.heap.size+1+1+1,0,none⟩) 1 1,.slice (some ⟨w.heap.size+1+1+1+1+1,0,none⟩) 1 1,.slice none 0 0]] B6 trivial rfl (by simp[kCase]) (by decide) (fun j hj=>match j,hj with | 0,_=>⟨_,_,_,rfl,i0,j2,jn _⟩ | 1,_=>⟨_,_,_,rfl,i3,j5,jn _⟩ | j+2,h=>absurd h (by simp[dcP]))
 have km:=YM (K:=kFlat 8) (S:=(fun _=>True)) (l:=[[1,1,0,0,0,0,0,0]]) [[.int .i64 1,.int .i64 1,.int .i64 0,.int .i64 0,.int .i64 0,.int .i64 0,.int .i64 0,.int .i64 0]] B8 trivial rfl (by simp[kFlat]) (by decide) (fun j hj=>match j,hj with | 0,_=>⟨rfl,rfl,by intro x hx;simp at hx;unfold WF;omega⟩ | j+1,h=>absurd h (by simp))
 have ks:=YM (K:=kSl (kFlat 8)) (S:=(fun _=>True)) (l:=dcP.st) [[.slice (some ⟨w.heap.size+1+1+1+1+1+1+1+1,0,none⟩) 1 1]] B9 trivial rfl (by simp[kSl]) (by decide) (fun j hj=>match j,hj with | 0,_=>⟨_,rfl,km⟩ | j+1,h=>absurd h (by simp[dcP]))
 have KB:Hid (Calls Tryz.prog 15 #[.agg #[.int .i64 1,.int .i64 2,.int .i64 2,.slice (some ⟨w.heap.size+1+1+1+1+1+1,0,none⟩) 2 2,.int .i64 1,.slice (some ⟨w.heap.size+1+1+1+1+1+1+1+1+1,0,none⟩) 1 1,.int .i64 0]] w1 (Post w1 fun w' r=>∃v,r=.tuple #[v,.int .i64 0]∧SysV (fun b=>(True∧b<w1.heap.size)∨w1.heap.size≤b) w' v dcP.full)):=zhd (pbuild25 kc ks zcy.few zdI)
 have t0:=B7.zc 0 rfl
 have t1:=B7.zc 1 rfl
 have t2:=B7.zc 2 rfl
 have t3:=B7.zc 3 rfl
 have lt:=B7.lt
 have a0:=B10.zc 0 rfl
 have a1:=B10.zc 1 rfl
 have la:=B10.lt
 clear hw1 i0 i1 i3 i4 j2 j5 jn kc km ks B0 B1 B2 B3 B4 B5 B6 B7 B8 B9 B10
 go_enter Tryz.func4,Tryz.ntmps4
 go_upto_region 3 with fail
 rw[←HW1.out]
 clear HW1
 go_wp2_with fail
 refine KB.out.mono ?_
 rintro _ w3 ⟨_,rfl,hb,v,rfl,hsy⟩
 replace ex:=za ex hb
 clear KB hb t0 t1 t2 t3 lt a0 a1 la
 have h:=hsy
 obtain ⟨vc,vs,vt,vx,rfl,hc,hs,ht,hx⟩:=h
 obtain ⟨ca,cc,rfl,_⟩:=hc.form
 obtain ⟨sa,sc,rfl,_⟩:=hs.form
 obtain ⟨ta,tc,rfl,_⟩:=ht.form
 obtain ⟨xa,xc,rfl,_⟩:=hx.form
 clear hc hs ht hx
 have HSY:Hid (SysV (fun b=>(True∧b<w1.heap.size)∨w1.heap.size≤b) w3 (.agg #[.int .i64 dcP.full.p.n,.int .i64 dcP.full.p.ins,.int .i64 dcP.full.p.outs,.slice ca dcP.full.p.cs.length cc,.int .i64 dcP.full.p.an,.slice sa dcP.full.p.st.length sc,.int .i64 dcP.full.p.rounds,.int .i64 dcP.full.tn,.slice ta dcP.full.tab.length tc,.slice xa dcP.full.ex.length xc]) dcP.full):=zhd hsy
 clear hsy
 have e4:=zg (zb w3 (.cells #[.int .i64 dcP.full.p.n,.int .i64 dcP.full.p.ins,.int .i64 dcP.full.p.outs,.slice ca dcP.full.p.cs.length cc,.int .i64 dcP.full.p.an,.slice sa dcP.full.p.st.length sc,.int .i64 dcP.full.p.rounds,.int .i64 dcP.full.tn,.slice ta dcP.full.tab.length tc,.slice xa dcP.full.ex.length xc] 39)) (.cells #[.int .i64 0,.int .i64 1] 3)
 have R7:=(ze w3 [.int .i64 dcP.full.p.n,.int .i64 dcP.full.p.ins,.int .i64 dcP.full.p.outs,.slice ca dcP.full.p.cs.length cc,.int .i64 dcP.full.p.an,.slice sa dcP.full.p.st.length sc,.int .i64 dcP.full.p.rounds,.int .i64 dcP.full.tn,.slice ta dcP.full.tab.length tc,.slice xa dcP.full.ex.length xc] 39).alloc (.cells #[.int .i64 0,.int .i64 1] 3)
 have RI:=ze (w3.alloc (.cells #[.int .i64 dcP.full.p.n,.int .i64 dcP.full.p.ins,.int .i64 dcP.full.p.outs,.slice ca dcP.full.p.cs.length cc,.int .i64 dcP.full.p.an,.slice sa dcP.full.p.st.length sc,.int .i64 dcP.full.p.rounds,.int .i64 dcP.full.tn,.slice ta dcP.full.tab.length tc,.slice xa dcP.full.ex.length xc] 39)) [.int .i64 0,.int .i64 1] 3
 rw[World.size_alloc]at RI
 have ia:=(Row.ints (l:=[0,1]) RI (by decide) (by intro x hx;simp at hx;unfold WF;omega)).mono (S':=(fun _=>True)) (fun _ _=>trivial)
 replace ex:=za ex e4
 replace HSY:=zhd (HSY.out.ext e4)
 obtain ⟨w4,hw4⟩:∃w4,w4=(w3.alloc (.cells #[.int .i64 dcP.full.p.n,.int .i64 dcP.full.p.ins,.int .i64 dcP.full.p.outs,.slice ca dcP.full.p.cs.length cc,.int .i64 dcP.full.p.an,.slice sa dcP.full.p.st.length sc,.int .i64 dcP.full.p.rounds,.int .i64 dcP.full.tn,.slice ta dcP.full.tab.length tc,.slice xa dcP.full.ex.length xc] 39)).alloc (.cells #[.int .i64 0,.int .i64 1] 3):=⟨_,rfl⟩
 have HW4:=zhd hw4
 rw[←hw4]at R7 ia ex HSY
 have KS:Hid (Calls Tryz.prog 16 #[.agg #[.int .i64 dcP.full.p.n,.int .i64 dcP.full.p.ins,.int .i64 dcP.full.p.outs,.slice ca dcP.full.p.cs.length cc,.int .i64 dcP.full.p.an,.slice sa dcP.full.p.st.length sc,.int .i64 dcP.full.p.rounds,.int .i64 dcP.full.tn,.slice ta dcP.full.tab.length tc,.slice xa dcP.full.ex.length xc],.agg #[.slice (some ⟨w3.heap.size+1,0,none⟩) 2 2]] w4 (Post w4 fun _ r=>r=.tuple #[.bool true,.int .i64 0,.int .i64 0])):=zhd (by
  have:=Z9 HSY.out zcy.few ia
  rw[zeL]at this;exact this)
 obtain ⟨SB,hSB⟩:∃b,b=w3.heap.size:=⟨_,rfl⟩
 have HSB:=zhd hSB
 rw[←hSB]at R7
 clear hw4 hSB ia RI e4
 obtain ⟨s0,s1,s2,s3,s4,s5,s6,s7,s8,s9⟩:=R7.ten
 have ls:=R7.lt
 go_wp2_with fail
 rw[←HW4.out]
 refine KS.out.mono ?_
 rintro _ w5 ⟨_,rfl,hb,rfl⟩
 replace ex:=za ex hb
 replace HSY:=zhd (HSY.out.ext hb)
 replace R7:=R7.ext hb
 rw[←HSB.out]
 clear KS hb HW4 HSB s0 s1 s2 s3 s4 s5 s6 s7 s8 s9 ls
 have e6:=zb w5 (.cells #[.int .i64 1,.int .i64 1] 3)
 have R8:=R7.ext e6
 have RI:=ze w5 [.int .i64 1,.int .i64 1] 3
 have ia:=(Row.ints (l:=[1,1]) RI (by decide) (by intro x hx;simp at hx;unfold WF;omega)).mono (S':=(fun _=>True)) (fun _ _=>trivial)
 replace ex:=za ex e6
 have KS:Hid (Calls Tryz.prog 16 #[.agg #[.int .i64 dcP.full.p.n,.int .i64 dcP.full.p.ins,.int .i64 dcP.full.p.outs,.slice ca dcP.full.p.cs.length cc,.int .i64 dcP.full.p.an,.slice sa dcP.full.p.st.length sc,.int .i64 dcP.full.p.rounds,.int .i64 dcP.full.tn,.slice ta dcP.full.tab.length tc,.slice xa dcP.full.ex.length xc],.agg #[.slice (some ⟨w5.heap.size,0,none⟩) 2 2]] (w5.alloc (.cells #[.int .i64 1,.int .i64 1] 3)) (Post (w5.alloc (.cells #[.int .i64 1,.int .i64 1] 3)) fun _ r=>r=.tuple #[.bool false,.int .i64 0,.int .i64 0])):=zhd (by
  have:=Z9 (HSY.out.ext e6) zcy.few ia
  rw[zeY]at this;exact this)
 clear HSY RI ia e6 R8
 obtain ⟨s0,s1,s2,s3,s4,s5,s6,s7,s8,s9⟩:=R7.ten
 have ls:=R7.lt
 go_wp2_with fail
 refine KS.out.mono ?_
 rintro _ w6 ⟨_,rfl,hb,rfl⟩
 replace ex:=za ex hb
 clear KS hb s0 s1 s2 s3 s4 s5 s6 s7 s8 s9 ls R7
 go_wp2
 go_ret
 exact .mk ex rfl
end Go.Proofs.YtjpakklplhabdaaGreat
