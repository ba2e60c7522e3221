/- Part of the proof that the laws answer true for every input. -/
import Derived.Test.YtaijafjfafbcfaaGreatPXa33
import Derived.Test.YtaijafjfafbcfaaGreatPXa32
set_option linter.unusedSimpArgs false
set_option linter.unnecessarySimpa false
set_option linter.unusedVariables false
set_option maxRecDepth 100000
set_option maxHeartbeats 40000000
namespace Go.Proofs.YtaijafjfafbcfaaGreat
open Go.RowKit
attribute [local go_sem ↓] Go.wp_at_zero Go.wp_at_succ
theorem ffin_calls {S:Nat→Prop} {w W:World} {s:SysF} {e K L:Nat} {ca sa ta xa a3:Option Addr} {cc sc tc xc c3:Nat} {u:Value} (hW:Below w.heap.size w W) (hr:s.p.rounds=K) (he:e<s.ex.length) (xad:Ad S w xa s.ex.length xc)
  (z2:w.cell? ⟨(adr xa (e * 3)).block,(adr xa (e * 3)).off+2,none⟩=some (.slice a3 L c3)) (q2:∀W:World,(Instr.indexAt 79 (.slice a3 L c3) (.int .i64 K)).run Tryz.prog W=.ok (.pointer (some (adr a3 K))) W) (cu:w.cell? (adr a3 K)=some u):
  Calls Tryz.prog 85 #[.agg #[.int .i64 s.p.n,.int .i64 s.p.ins,.int .i64 s.p.outs,.slice ca s.p.cs.length cc,.int .i64 s.p.an,.slice sa s.p.st.length sc,.int .i64 s.p.rounds,.int .i64 s.tn,.slice ta s.tab.length tc,.slice xa s.ex.length xc],.int .i64 e] W (Post W fun _ r=>r=u):=by
 have q1:=idx_exec xad e he
 have ex:=ext_alloc W (.cells #[.int .i64 s.p.n,.int .i64 s.p.ins,.int .i64 s.p.outs,.slice ca s.p.cs.length cc,.int .i64 s.p.an,.slice sa s.p.st.length sc,.int .i64 s.p.rounds,.int .i64 s.tn,.slice ta s.tab.length tc,.slice xa s.ex.length xc] 35)
 have R0:=row_new W [.int .i64 s.p.n,.int .i64 s.p.ins,.int .i64 s.p.outs,.slice ca s.p.cs.length cc,.int .i64 s.p.an,.slice sa s.p.st.length sc,.int .i64 s.p.rounds,.int .i64 s.tn,.slice ta s.tab.length tc,.slice xa s.ex.length xc] 35
 rw[hr]at R0 ex ⊢
 have t6:=R0.cell (j:=6) rfl
 have t9:=R0.cell (j:=9) rfl
 have l0:=R0.lt
 have z2':=cell_ext (cell_ext z2 hW) ex
 have cu':=cell_ext (cell_ext cu hW) ex
 have bk:=World.block_lt_of_cell? _ _ (cell_ext z2 hW)
 have bu:=World.block_lt_of_cell? _ _ (cell_ext cu hW)
 clear xad hr z2 cu R0 hW
 go_enter Tryz.func85,Tryz.ntmps85
 go_wp2
 go_quiet (fail)
 go_wp2
 go_ret
 exact .mk (ext_trans ex (drewN_below _ _ _)) rfl
theorem rfinU {S:Nat→Prop} {w:World} {v:Value} {s:SysF} {e:Nat} (h:SysV S w v s) (hg:GoodS s s.N s.K) (he:e<s.ex.length):
  ∃fa fc,Ints S w (.slice fa (finL s e).length fc) (finL s e)∧∀W,Below w.heap.size w W→Calls Tryz.prog 85 #[v,.int .i64 e] W (Post W fun _ r=>r=.slice fa (finL s e).length fc):=by
 obtain ⟨vc,vs,vt,vx,rfl,hc,hs,ht,hx⟩:=h
 obtain ⟨ca,cc,rfl,_⟩:=hc.form
 obtain ⟨sa,sc,rfl,_⟩:=hs.form
 obtain ⟨ta,tc,rfl,_⟩:=ht.form
 obtain ⟨xa,xc,rfl,xad,_⟩:=hx.form2
 obtain ⟨a1,c1,a2,c2,z0,z1,z2,i1,i2⟩:=hx.exec he
 obtain ⟨c,hX⟩:=hg.ex e he
 have hK:s.K<(nthX s.ex e).vs.length:=by have:=hX.len;omega
 obtain ⟨_,_,hee,ad2,_⟩:=i2.form
 cases hee
 obtain ⟨i0,hi,_,hz1,_⟩:=info_parts info_ints
 have q2:=idx_one Tryz.underlying79 hi hz1 ad2 s.K hK
 obtain ⟨u,cu,iu⟩:=i2.at (.refl _ _) hK
 obtain ⟨fa,fc,rfl,_⟩:=iu.form
 exact ⟨fa,fc,iu,fun W hW=>ffin_calls hW hg.rnd he xad z2 q2 cu⟩
theorem with_quiet (w:World) {a p:Nat} (ha:a<2 ^ p) (hp:p≤5):Calls Tryz.prog 60 #[.int .i64 a,.int .i64 p] w (QuietP w (.int .i64 ((a|||2 ^ p:Nat):Int))):=by
 have hz:=pow_small hp
 have e1:a.testBit p=false:=Nat.testBit_lt_two_pow ha
 have e2:a|||2 ^ p=a+2 ^ p:=by
  have:=Nat.two_pow_add_eq_or_of_lt ha 1
  rw[Nat.mul_one,Nat.or_comm]at this
  omega
 rw[e2]
 have K1:=Lib.hid ((has_quiet w (a:=a) (by omega) hp).mono fun _ _ h=>h.take)
 rw[e1]at K1
 have K2:=Lib.hid fun W=>((power_quiet W hp).mono fun _ _ h=>h.take)
 obtain ⟨z,hzz⟩:∃z,z=2 ^ p:=⟨_,rfl⟩
 rw[←hzz]at K2 hz ha ⊢
 clear hzz e1 e2
 obtain ⟨hz0,hz1⟩:=hz
 have hp5:p≤5:=hp
 go_enter Tryz.func60,Tryz.ntmps60
 go_wp2_with fail
 refine K1.out.mono ?_
 rintro _ w1 ⟨_,rfl,hq1,rfl⟩
 clear K1
 go_wp2_with fail
 refine (K2.out w1).mono ?_
 rintro _ w2 ⟨_,rfl,hq2,rfl⟩
 go_wp2
 go_ret
 exact .fin (int_eq (by simp)) (hq1.trans hq2)
theorem rlinks_calls {S:Nat→Prop} {w:World} {v:Value} {s:SysF} {q e f:Nat} (h:SysV S w v s) (hg:GoodS s s.N s.K) (hq:q<s.N) (he:e<s.ex.length) (hf:f<s.ex.length):
  Calls Tryz.prog 59 #[v,.int .i64 q,.int .i64 e,.int .i64 f] w (Post w fun _ r=>r=.bool (lkB s q e f)):=by
 have KM:Hid (∀W,Below w.heap.size w W→Calls Tryz.prog 84 #[v,.int .i64 e] W (Post W fun _ r=>r=.int .i64 (maskW s.N (nthX s.ex e).word))):=Lib.hid fun W hW=>rmask_calls (h.ext hW) hg he
 have KN:Hid (∀W,Below w.heap.size w W→Calls Tryz.prog 84 #[v,.int .i64 f] W (Post W fun _ r=>r=.int .i64 (maskW s.N (nthX s.ex f).word))):=Lib.hid fun W hW=>rmask_calls (h.ext hW) hg hf
 obtain ⟨fa,fc,hfi,KF⟩:=rfinU h hg he
 obtain ⟨ga,gc,hgi,KG⟩:=rfinU h hg hf
 have KF:=Lib.hid KF
 have KG:=Lib.hid KG
 have hN:=hg.pok.n1.2
 have hql:q<(finL s e).length:=by rw[(hg.fin he).1];exact hq
 have hqg:q<(finL s f).length:=by rw[(hg.fin hf).1];exact hq
 have c1:=hfi.cellN hql
 have c2:=hgi.cellN hqg
 have q1:=hfi.idx hql
 have q2:=hgi.idx hqg
 have HL:Hid (lkB s q e f=((maskW s.N (nthX s.ex e).word).testBit q&&((maskW s.N (nthX s.ex f).word).testBit q&&decide (nth (finL s e) q=nth (finL s f) q)))):=Lib.hid (lkB_ref hg he hf hq)
 have KH:Hid (∀W (u:Nat),u<4294967296→Calls Tryz.prog 83 #[.int .i64 u,.int .i64 q] W fun e w'=>∃r,e=.returned r∧QW W w'∧r=.bool (u.testBit q)):=Lib.hid fun W u hu=>(has_quiet W hu (by omega)).mono fun _ _ h=>h.take
 have hm1:=maskW_lt hN (nthX s.ex e).word
 have hm2:=maskW_lt hN (nthX s.ex f).word
 obtain ⟨m1,hh1⟩:∃m,m=maskW s.N (nthX s.ex e).word:=⟨_,rfl⟩
 obtain ⟨m2,hh2⟩:∃m,m=maskW s.N (nthX s.ex f).word:=⟨_,rfl⟩
 rw[←hh1]at KM HL hm1
 rw[←hh2]at KN HL hm2
 have KH1:=Lib.hid fun W=>KH.out W m1 hm1
 have KH2:=Lib.hid fun W=>KH.out W m2 hm2
 obtain ⟨o1,ho1⟩:∃o,o=m1.testBit q:=⟨_,rfl⟩
 obtain ⟨o2,ho2⟩:∃o,o=m2.testBit q:=⟨_,rfl⟩
 rw[←ho1]at KH1 HL
 rw[←ho2]at KH2 HL
 obtain ⟨r,hr⟩:∃r,r=lkB s q e f:=⟨_,rfl⟩
 rw[←hr]at HL ⊢
 obtain ⟨x,hxx⟩:∃x,x=nth (finL s e) q:=⟨_,rfl⟩
 obtain ⟨y,hyy⟩:∃y,y=nth (finL s f) q:=⟨_,rfl⟩
 rw[←hxx]at c1 HL
 rw[←hyy]at c2 HL
 obtain ⟨n1,hn1⟩:∃n,n=(finL s e).length:=⟨_,rfl⟩
 obtain ⟨n2,hn2⟩:∃n,n=(finL s f).length:=⟨_,rfl⟩
 rw[←hn1]at KF q1
 rw[←hn2]at KG q2
 obtain ⟨vc,vs,vt,vx,rfl,hc,hs,ht,hx⟩:=h
 obtain ⟨ca,cc,rfl,_⟩:=hc.form
 obtain ⟨sa,sc,rfl,_⟩:=hs.form
 obtain ⟨ta,tc,rfl,_⟩:=ht.form
 obtain ⟨xa,xc,rfl,xad,_⟩:=hx.form2
 have ex:=ext_alloc w (.cells #[.int .i64 s.p.n,.int .i64 s.p.ins,.int .i64 s.p.outs,.slice ca s.p.cs.length cc,.int .i64 s.p.an,.slice sa s.p.st.length sc,.int .i64 s.p.rounds,.int .i64 s.tn,.slice ta s.tab.length tc,.slice xa s.ex.length xc] 35)
 have R0:=row_new w [.int .i64 s.p.n,.int .i64 s.p.ins,.int .i64 s.p.outs,.slice ca s.p.cs.length cc,.int .i64 s.p.an,.slice sa s.p.st.length sc,.int .i64 s.p.rounds,.int .i64 s.tn,.slice ta s.tab.length tc,.slice xa s.ex.length xc] 35
 have HC1:Hid (∀W,Below w.heap.size w W→W.cell? (adr fa q)=some (.int .i64 x)):=Lib.hid fun W hW=>cell_ext c1 hW
 have HC2:Hid (∀W,Below w.heap.size w W→W.cell? (adr ga q)=some (.int .i64 y)):=Lib.hid fun W hW=>cell_ext c2 hW
 clear c1 c2 hc hs ht hx xad hg hh1 hh2 ho1 ho2 hr hxx hyy hn1 hn2 hql hqg hfi hgi KH hN hq he hf
 have t0:=R0.cell (j:=0) rfl
 have t1:=R0.cell (j:=1) rfl
 have t2:=R0.cell (j:=2) rfl
 have t3:=R0.cell (j:=3) rfl
 have t4:=R0.cell (j:=4) rfl
 have t5:=R0.cell (j:=5) rfl
 have t6:=R0.cell (j:=6) rfl
 have t7:=R0.cell (j:=7) rfl
 have t8:=R0.cell (j:=8) rfl
 have t9:=R0.cell (j:=9) rfl
 have l0:=R0.lt
 go_enter Tryz.func59,Tryz.ntmps59
 go_wp2_with fail
 refine (KM.out _ ex).mono ?_
 rintro _ w1 ⟨_,rfl,hb,rfl⟩
 replace R0:=R0.ext hb
 replace ex:=ext_trans ex hb
 clear hb KM t0 t1 t2 t3 t4 t5 t6 t7 t8 t9 l0
 go_wp2_with fail
 refine (KH1.out w1).mono ?_
 rintro _ w2 ⟨_,rfl,hb,rfl⟩
 replace R0:=R0.ext hb.ext
 replace ex:=ext_trans ex hb.ext
 clear hb KH1
 cases o1 with
 | false=>
  go_wp2
  go_ret
  exact .mk ex (bool_eq (by rw[HL.out];rfl))
 | true=>
 have t0:=R0.cell (j:=0) rfl
 have t1:=R0.cell (j:=1) rfl
 have t2:=R0.cell (j:=2) rfl
 have t3:=R0.cell (j:=3) rfl
 have t4:=R0.cell (j:=4) rfl
 have t5:=R0.cell (j:=5) rfl
 have t6:=R0.cell (j:=6) rfl
 have t7:=R0.cell (j:=7) rfl
 have t8:=R0.cell (j:=8) rfl
 have t9:=R0.cell (j:=9) rfl
 have l0:=R0.lt
 go_wp2_with fail
 refine (KN.out _ ex).mono ?_
 rintro _ w3 ⟨_,rfl,hb,rfl⟩
 replace R0:=R0.ext hb
 replace ex:=ext_trans ex hb
 clear hb KN t0 t1 t2 t3 t4 t5 t6 t7 t8 t9 l0
 go_wp2_with fail
 refine (KH2.out w3).mono ?_
 rintro _ w4 ⟨_,rfl,hb,rfl⟩
 replace R0:=R0.ext hb.ext
 replace ex:=ext_trans ex hb.ext
 clear hb KH2
 cases o2 with
 | false=>
  go_wp2
  go_ret
  exact .mk ex (bool_eq (by rw[HL.out];rfl))
 | true=>
 have HEX:=Lib.hid ex
 have KEEP:Hid (∀w',Below w4.heap.size w4 w'→(fun w':World=>w'.cell? ⟨w.heap.size,0,none⟩=some (.int .i64 s.p.n)∧w'.cell? ⟨w.heap.size,1,none⟩=some (.int .i64 s.p.ins)∧w'.cell? ⟨w.heap.size,2,none⟩=some (.int .i64 s.p.outs)∧w'.cell? ⟨w.heap.size,3,none⟩=some (.slice ca s.p.cs.length cc)∧w'.cell? ⟨w.heap.size,4,none⟩=some (.int .i64 s.p.an)∧w'.cell? ⟨w.heap.size,5,none⟩=some (.slice sa s.p.st.length sc)∧w'.cell? ⟨w.heap.size,6,none⟩=some (.int .i64 s.p.rounds)∧w'.cell? ⟨w.heap.size,7,none⟩=some (.int .i64 s.tn)∧w'.cell? ⟨w.heap.size,8,none⟩=some (.slice ta s.tab.length tc)∧w'.cell? ⟨w.heap.size,9,none⟩=some (.slice xa s.ex.length xc)∧w'.cell? (adr fa q)=some (.int .i64 x)∧w'.cell? (adr ga q)=some (.int .i64 y)) w'):=Lib.hid fun w' hw=>⟨(R0.ext hw).cell (j:=0) rfl,(R0.ext hw).cell (j:=1) rfl,(R0.ext hw).cell (j:=2) rfl,(R0.ext hw).cell (j:=3) rfl,(R0.ext hw).cell (j:=4) rfl,(R0.ext hw).cell (j:=5) rfl,(R0.ext hw).cell (j:=6) rfl,(R0.ext hw).cell (j:=7) rfl,(R0.ext hw).cell (j:=8) rfl,(R0.ext hw).cell (j:=9) rfl,HC1.out _ (ext_trans ex hw),HC2.out _ (ext_trans ex hw)⟩
 clear ex R0 HC1 HC2
 go_wp2
 refine region_E (fun w':World=>w'.cell? ⟨w.heap.size,0,none⟩=some (.int .i64 s.p.n)∧w'.cell? ⟨w.heap.size,1,none⟩=some (.int .i64 s.p.ins)∧w'.cell? ⟨w.heap.size,2,none⟩=some (.int .i64 s.p.outs)∧w'.cell? ⟨w.heap.size,3,none⟩=some (.slice ca s.p.cs.length cc)∧w'.cell? ⟨w.heap.size,4,none⟩=some (.int .i64 s.p.an)∧w'.cell? ⟨w.heap.size,5,none⟩=some (.slice sa s.p.st.length sc)∧w'.cell? ⟨w.heap.size,6,none⟩=some (.int .i64 s.p.rounds)∧w'.cell? ⟨w.heap.size,7,none⟩=some (.int .i64 s.tn)∧w'.cell? ⟨w.heap.size,8,none⟩=some (.slice ta s.tab.length tc)∧w'.cell? ⟨w.heap.size,9,none⟩=some (.slice xa s.ex.length xc)∧w'.cell? (adr fa q)=some (.int .i64 x)∧w'.cell? (adr ga q)=some (.int .i64 y)) (fun i=>false) (by kernel_rfl) ?_ (fun hHeld=>?_)
 ·exact KEEP.out _ (drewN_below w4.heap.size w4 1)
 refine anyE_take 0 (v:=?_) rfl (by kernel_rfl) (fun _ _ _ h=>h) (by rfl) ?hy0 hHeld ?rest0
 case hy0=>(intro w hSw;(try dsimp only at hSw);go_simp;try with_reducible rfl)
 try simp only[Act.put,zsa,zsz,zss]
 refine anyE_take 1 (v:=?_) rfl (by kernel_rfl) (fun _ _ _ h=>h) (by rfl) ?hy1 hHeld ?rest1
 case hy1=>(intro w hSw;(try dsimp only at hSw);go_simp;try with_reducible rfl)
 try simp only[Act.put,zsa,zsz,zss]
 refine anyE_take 3 (v:=?_) rfl (by kernel_rfl) (fun _ _ _ h=>h) (by rfl) ?hy3 hHeld ?rest3
 case hy3=>(intro w hSw;(try dsimp only at hSw);go_simp;try with_reducible rfl)
 try simp only[Act.put,zsa,zsz,zss]
 refine anyE_take 6 (v:=?_) rfl (by kernel_rfl) (fun _ _ _ h=>h) (by rfl) ?hy6 hHeld ?rest6
 case hy6=>(intro w hSw;(try dsimp only at hSw);go_simp;try with_reducible rfl)
 try simp only[Act.put,zsa,zsz,zss]
 refine anyE_take 7 (v:=?_) rfl (by kernel_rfl) (fun _ _ _ h=>h) (by rfl) ?hy7 hHeld ?rest7
 case hy7=>(intro w hSw;(try dsimp only at hSw);go_simp;try with_reducible rfl)
 try simp only[Act.put,zsa,zsz,zss]
 refine anyE_take 9 (v:=?_) rfl (by kernel_rfl) (fun _ _ _ h=>h) (by rfl) ?hy9 hHeld ?rest9
 case hy9=>(intro w hSw;(try dsimp only at hSw);go_simp;try with_reducible rfl)
 try simp only[Act.put,zsa,zsz,zss]
 refine anyE_one 2 rfl (by kernel_rfl) (fun K hK=>?_)
 (go_simp;go_at_call 85;refine (KF.out _ (ext_trans HEX.out (drewN_below w4.heap.size w4 1))).mono ?_;rintro _ v1 ⟨_,rfl,hb,rfl⟩;have y1:=ext_trans (drewN_below w4.heap.size w4 1) hb;clear hb)
 refine hK.out _ _ (fun _=>KEEP.out _ y1) (fun hHeld=>?_);replace hHeld:=hHeld rfl
 clear hK K
 try simp only[Act.put,zsa,zsz,zss]
 refine anyE_take 4 (v:=?_) rfl (by kernel_rfl) (fun _ _ _ h=>h) (by rfl) ?hy4 hHeld ?rest4
 case hy4=>(intro w hSw;(try dsimp only at hSw);go_simp;try with_reducible rfl)
 try simp only[Act.put,zsa,zsz,zss]
 refine anyE_take 5 (v:=?_) rfl (by kernel_rfl) (fun _ _ _ h=>h) (by rfl) ?hy5 hHeld ?rest5
 case hy5=>(intro w hSw;(try dsimp only at hSw);go_simp;try with_reducible rfl)
 try simp only[Act.put,zsa,zsz,zss]
 refine anyE_one 8 rfl (by kernel_rfl) (fun K hK=>?_)
 (go_simp;go_at_call 85;refine (KG.out _ (ext_trans HEX.out y1)).mono ?_;rintro _ v2 ⟨_,rfl,hb,rfl⟩;have y2:=ext_trans y1 hb;clear hb)
 refine hK.out _ _ (fun _=>KEEP.out _ y2) (fun hHeld=>?_);replace hHeld:=hHeld rfl
 clear hK K
 try simp only[Act.put,zsa,zsz,zss]
 refine anyE_take 10 (v:=?_) rfl (by kernel_rfl) (fun _ _ _ h=>h) (by rfl) ?hy10 hHeld ?rest10
 case hy10=>(intro w hSw;(try dsimp only at hSw);go_simp;try with_reducible rfl)
 try simp only[Act.put,zsa,zsz,zss]
 refine anyE_take 11 (v:=?_) rfl (by kernel_rfl) (fun _ _ _ h=>h) (by rfl) ?hy11 hHeld ?rest11
 case hy11=>(intro w hSw;(try dsimp only at hSw);go_simp;try with_reducible rfl)
 try simp only[Act.put,zsa,zsz,zss]
 refine anyE_take 12 (v:=?_) rfl (by kernel_rfl) (fun _ _ _ h=>h) (by rfl) ?hy12 hHeld ?rest12
 case hy12=>(intro w hSw;(try dsimp only at hSw);go_simp;try with_reducible rfl)
 try simp only[Act.put,zsa,zsz,zss]
 refine anyE_take 13 (v:=?_) rfl (by kernel_rfl) (fun _ _ _ h=>h) (by rfl) ?hy13 hHeld ?rest13
 case hy13=>(intro w hSw;(try dsimp only at hSw);go_simp;try with_reducible rfl)
 try simp only[Act.put,zsa,zsz,zss]
 refine anyE_done (by kernel_rfl) ?_ _
 have hxy:(x==y)=decide (x=y):=by rw[Bool.eq_iff_iff];simp
 have HXY:=Lib.hid hxy
 clear hHeld KEEP hxy
 go_wp2
 go_ret
 exact .mk (ext_trans HEX.out y2) (bool_eq (by rw[HL.out,HXY.out];rfl))
theorem rby_calls {S:Nat→Prop} {w:World} {v:Value} {s:SysF} {e f:Nat} (h:SysV S w v s) (hg:GoodS s s.N s.K) (he:e<s.ex.length) (hf:f<s.ex.length):
  Calls Tryz.prog 36 #[v,.int .i64 e,.int .i64 f] w (Post w fun _ r=>r=.int .i64 (byN s e f)):=by
 have KL:Hid (∀q,q<s.N→∀W,Below w.heap.size w W→Calls Tryz.prog 59 #[v,.int .i64 q,.int .i64 e,.int .i64 f] W (Post W fun _ r=>r=.bool (lkB s q e f))):=Lib.hid fun q hq W hW=>rlinks_calls (h.ext hW) hg hq he hf
 have hN:=hg.pok.n1.2
 have htn:s.tn=(s.N:Int):=hg.tn
 obtain ⟨vc,vs,vt,vx,rfl,hc,hs,ht,hx⟩:=h
 obtain ⟨ca,cc,rfl,_⟩:=hc.form
 obtain ⟨sa,sc,rfl,_⟩:=hs.form
 obtain ⟨ta,tc,rfl,_⟩:=ht.form
 obtain ⟨xa,xc,rfl,xad,_⟩:=hx.form2
 obtain ⟨B,hB⟩:∃B,B=fun q=>lkB s q e f:=⟨_,rfl⟩
 have hBq:∀q,lkB s q e f=B q:=fun q=>by rw[hB]
 have hby:byN s e f=setTo B s.N:=by rw[hB];rfl
 simp only[hBq]at KL
 rw[hby]
 rw[htn]at KL ⊢
 have ex:=ext_alloc w (.cells #[.int .i64 s.p.n,.int .i64 s.p.ins,.int .i64 s.p.outs,.slice ca s.p.cs.length cc,.int .i64 s.p.an,.slice sa s.p.st.length sc,.int .i64 s.p.rounds,.int .i64 s.N,.slice ta s.tab.length tc,.slice xa s.ex.length xc] 35)
 have R0:=row_new w [.int .i64 s.p.n,.int .i64 s.p.ins,.int .i64 s.p.outs,.slice ca s.p.cs.length cc,.int .i64 s.p.an,.slice sa s.p.st.length sc,.int .i64 s.p.rounds,.int .i64 s.N,.slice ta s.tab.length tc,.slice xa s.ex.length xc] 35
 clear hc hs ht hx xad hg he hf hB hBq hby htn
 go_enter Tryz.func36,Tryz.ntmps36
 go_wp2
 go_loopw [7,8] (fun o i wr=>∃k z:Nat,k≤s.N∧i=.int .i64 k∧o=.int .i64 z∧Hid (z=setTo B k)∧Below w.heap.size w wr∧Row wr w.heap.size 35 [.int .i64 s.p.n,.int .i64 s.p.ins,.int .i64 s.p.outs,.slice ca s.p.cs.length cc,.int .i64 s.p.an,.slice sa s.p.st.length sc,.int .i64 s.p.rounds,.int .i64 s.N,.slice ta s.tab.length tc,.slice xa s.ex.length xc]) (fun _ i _=>s.N - (intOf i).toNat)
 case atStart=>exact ⟨0,0,Nat.zero_le _,rfl,rfl,Lib.hid rfl,ex,R0⟩
 case round=>
  clear ex R0
  obtain ⟨k,z,hk,rfl,rfl,HZ,ex,R0⟩:=hrel
  have t0:=R0.cell (j:=0) rfl
  have t1:=R0.cell (j:=1) rfl
  have t2:=R0.cell (j:=2) rfl
  have t3:=R0.cell (j:=3) rfl
  have t4:=R0.cell (j:=4) rfl
  have t5:=R0.cell (j:=5) rfl
  have t6:=R0.cell (j:=6) rfl
  have t7:=R0.cell (j:=7) rfl
  have t8:=R0.cell (j:=8) rfl
  have t9:=R0.cell (j:=9) rfl
  have l0:=R0.lt
  by_cases hlt:k<s.N
  case neg=>
   obtain rfl:k=s.N:=by omega
   go_wp2
   go_ret
   exact .mk ex (by rw[HZ.out];rfl)
  have KL2:=Lib.hid (KL.out k hlt wr ex)
  have HS:Hid (setTo B (k+1)=if B k then z|||2 ^ k else z):=Lib.hid (by rw[HZ.out];rfl)
  have hz:z<2 ^ k:=by rw[HZ.out];exact setTo_lt B k
  have KW:=Lib.hid fun W=>((with_quiet W hz (show k≤5 by omega)).mono fun _ _ h=>h.take)
  obtain ⟨zz,hzz⟩:∃zz,zz=z|||2 ^ k:=⟨_,rfl⟩
  rw[←hzz]at KW HS
  obtain ⟨b,hb⟩:∃b,b=B k:=⟨_,rfl⟩
  rw[←hb]at KL2 HS
  clear hzz hb hz
  go_wp2_with fail
  refine (KL2.out).mono ?_
  rintro _ w1 ⟨_,rfl,hb,rfl⟩
  replace R0:=R0.ext hb
  replace ex:=ext_trans ex hb
  clear hb KL2 t0 t1 t2 t3 t4 t5 t6 t7 t8 t9 l0
  cases b with
  | false=>
   have HZ2:Hid (z=setTo B (k+1)):=Lib.hid (by rw[HS.out];rfl)
   go_wp2
   go_roundw
   case rel=>exact ⟨k+1,z,by omega,by go_num,rfl,HZ2,ex,R0⟩
   case measure=>simp[intOf];omega
  | true=>
   have HZ2:Hid (zz=setTo B (k+1)):=Lib.hid (by rw[HS.out];rfl)
   go_wp2_with fail
   refine (KW.out w1).mono ?_
   rintro _ w2 ⟨_,rfl,hb,rfl⟩
   replace R0:=R0.ext hb.ext
   replace ex:=ext_trans ex hb.ext
   clear hb KW
   go_wp2
   go_roundw
   case rel=>exact ⟨k+1,zz,by omega,by go_num,rfl,HZ2,ex,R0⟩
   case measure=>simp[intOf];omega
def thE (s:SysF) (e f:Int):Int:=if verE s=0 then (if e<0∨(s.ex.length:Int)≤e∨f<0∨(s.ex.length:Int)≤f then 6 else 0) else verE s
theorem thE_ok {s:SysF} {e f:Int} (h:thE s e f=0):verE s=0∧∃x y:Nat,e=x∧f=y∧x<s.ex.length∧y<s.ex.length:=by
 unfold thE at h
 by_cases h0:verE s=0
 ·rw[if_pos h0]at h
  by_cases h1:e<0∨(s.ex.length:Int)≤e∨f<0∨(s.ex.length:Int)≤f
  ·rw[if_pos h1]at h;cases h
  ·refine ⟨h0,e.toNat,f.toNat,?_,?_,?_,?_⟩<;>omega
 ·rw[if_neg h0]at h;exact absurd h h0
theorem rthere_calls {S:Nat→Prop} {w:World} {v:Value} {s:SysF} (e f:Int) (h:SysV S w v s) (hf:SmallP s.p):
  Calls Tryz.prog 35 #[v,.int .i64 e,.int .i64 f] w (Post w fun _ r=>r=.int .i64 (thE s e f)):=by
 have KV:Hid (∀W,Below w.heap.size w W→Calls Tryz.prog 39 #[v] W (Post W fun _ r=>r=.int .i64 (verE s))):=Lib.hid fun W hW=>rverify_calls (h.ext hW) hf
 obtain ⟨vc,vs,vt,vx,rfl,hc,hs,ht,hx⟩:=h
 obtain ⟨ca,cc,rfl,_⟩:=hc.form
 obtain ⟨sa,sc,rfl,_⟩:=hs.form
 obtain ⟨ta,tc,rfl,_⟩:=ht.form
 obtain ⟨xa,xc,rfl,xad,_⟩:=hx.form2
 have ex:=ext_alloc w (.cells #[.int .i64 s.p.n,.int .i64 s.p.ins,.int .i64 s.p.outs,.slice ca s.p.cs.length cc,.int .i64 s.p.an,.slice sa s.p.st.length sc,.int .i64 s.p.rounds,.int .i64 s.tn,.slice ta s.tab.length tc,.slice xa s.ex.length xc] 35)
 have R0:=row_new w [.int .i64 s.p.n,.int .i64 s.p.ins,.int .i64 s.p.outs,.slice ca s.p.cs.length cc,.int .i64 s.p.an,.slice sa s.p.st.length sc,.int .i64 s.p.rounds,.int .i64 s.tn,.slice ta s.tab.length tc,.slice xa s.ex.length xc] 35
 have t0:=R0.cell (j:=0) rfl
 have t1:=R0.cell (j:=1) rfl
 have t2:=R0.cell (j:=2) rfl
 have t3:=R0.cell (j:=3) rfl
 have t4:=R0.cell (j:=4) rfl
 have t5:=R0.cell (j:=5) rfl
 have t6:=R0.cell (j:=6) rfl
 have t7:=R0.cell (j:=7) rfl
 have t8:=R0.cell (j:=8) rfl
 have t9:=R0.cell (j:=9) rfl
 have l0:=R0.lt
 have HE:Hid (thE s e f=if verE s=0 then (if e<0∨(s.ex.length:Int)≤e∨f<0∨(s.ex.length:Int)≤f then 6 else 0) else verE s):=Lib.hid rfl
 obtain ⟨r,hr⟩:∃r,r=thE s e f:=⟨_,rfl⟩
 rw[←hr]at HE ⊢
 obtain ⟨ve,hve⟩:∃x,x=verE s:=⟨_,rfl⟩
 rw[←hve]at KV HE
 clear hc hs ht hx xad hf hve hr
 go_enter Tryz.func35,Tryz.ntmps35
 go_wp2_with fail
 refine (KV.out _ ex).mono ?_
 rintro _ w1 ⟨_,rfl,hb,rfl⟩
 replace R0:=R0.ext hb
 replace ex:=ext_trans ex hb
 clear hb KV t0 t1 t2 t3 t4 t5 t6 t7 t8 t9 l0
 by_cases hv:ve=0
 case neg=>
  have d0:(ve !=0)=true:=by simp[hv]
  have HR:=Lib.hid (HE.out.trans (if_neg hv))
  clear hv
  go_wp2
  go_ret
  exact .mk ex (int_eq HR.out.symm)
 have HR:=Lib.hid (HE.out.trans (if_pos hv))
 subst hv
 have d0:((0:Int) !=0)=false:=rfl
 have t9:=R0.cell (j:=9) rfl
 have l0:=R0.lt
 obtain ⟨L,hL⟩:∃L:Int,L=s.ex.length:=⟨_,rfl⟩
 rw[←hL]at HR
 have HL:=Lib.hid hL
 clear HE hL R0
 by_cases h1:e<0
 ·have d1:decide (e<0)=true:=decide_eq_true h1
  have HR2:=Lib.hid (HR.out.trans (if_pos (.inl h1)))
  go_wp2
  go_ret
  exact .mk ex (int_eq HR2.out.symm)
 have d1:decide (e<0)=false:=decide_eq_false h1
 have HL2:=Lib.hid HL.out.symm
 by_cases h2:L≤e
 ·have d2:decide ((s.ex.length:Int)≤e)=true:=decide_eq_true (by rw[HL2.out];exact h2)
  have d2':(s.ex.length:Int)≤e:=by rw[HL2.out];exact h2
  have HR2:=Lib.hid (HR.out.trans (if_pos (.inr (.inl h2))))
  go_wp2
  go_ret
  exact .mk ex (int_eq HR2.out.symm)
 have d2:decide ((s.ex.length:Int)≤e)=false:=decide_eq_false (by rw[HL2.out];exact h2)
 have d2':¬(s.ex.length:Int)≤e:=by rw[HL2.out];exact h2
 by_cases h3:f<0
 ·have d3:decide (f<0)=true:=decide_eq_true h3
  have HR2:=Lib.hid (HR.out.trans (if_pos (.inr (.inr (.inl h3)))))
  go_wp2
  go_ret
  exact .mk ex (int_eq HR2.out.symm)
 have d3:decide (f<0)=false:=decide_eq_false h3
 by_cases h4:L≤f
 ·have d4:decide ((s.ex.length:Int)≤f)=true:=decide_eq_true (by rw[HL2.out];exact h4)
  have d4':(s.ex.length:Int)≤f:=by rw[HL2.out];exact h4
  have HR2:=Lib.hid (HR.out.trans (if_pos (.inr (.inr (.inr h4)))))
  go_wp2
  go_ret
  exact .mk ex (int_eq HR2.out.symm)
 have d4:decide ((s.ex.length:Int)≤f)=false:=decide_eq_false (by rw[HL2.out];exact h4)
 have d4':¬(s.ex.length:Int)≤f:=by rw[HL2.out];exact h4
 have HR2:=Lib.hid (HR.out.trans (if_neg (fun h=>by rcases h with h | h | h | h;exact h1 h;exact h2 h;exact h3 h;exact h4 h)))
 clear h1 h2 h3 h4
 go_wp2
 go_ret
 exact .mk ex (int_eq HR2.out.symm)
end Go.Proofs.YtaijafjfafbcfaaGreat
namespace Go.Proofs.YtaijafjfafbcfaaGreat
def par (ps:List Int) (i:Nat):Nat:=(nth ps i).toNat
def Forest (ps:List Int):Prop:=∀i,i<ps.length→0≤nth ps i∧nth ps i≤i
theorem Forest.par {ps:List Int} (h:Forest ps) {i:Nat} (hi:i<ps.length):nth ps i=(par ps i:Int)∧par ps i≤i:=by
 have:=h i hi
 unfold Go.Proofs.YtaijafjfafbcfaaGreat.par
 omega
def rootN (ps:List Int):Nat→Nat→Nat
 | 0,i=>i
 | f+1,i=>if par ps i=i then i else rootN ps f (par ps i)
def root (ps:List Int) (i:Nat):Nat:=rootN ps i i
theorem rootN_fuel {ps:List Int} (h:Forest ps):∀f g i,i≤f→i≤g→i<ps.length→rootN ps f i=rootN ps g i:=by
 intro f
 induction f with
 | zero=>
  intro g i hf hg hi
  obtain rfl:i=0:=by omega
  cases g with
  | zero=>rfl
  | succ g=>
   have:=(h.par hi).2
   have e:par ps 0=0:=by omega
   simp[rootN,e]
 | succ f ih=>
  intro g i hf hg hi
  have hp:=(h.par hi).2
  cases g with
  | zero=>
   obtain rfl:i=0:=by omega
   have e:par ps 0=0:=by omega
   simp[rootN,e]
  | succ g=>
   simp only[rootN]
   split
   ·rfl
   ·rename_i hne
    exact ih g _ (by omega) (by omega) (by omega)
theorem root_fix {ps:List Int} {i:Nat} (h:par ps i=i):root ps i=i:=by
 unfold root
 cases i with
 | zero=>rfl
 | succ i=>simp[rootN,h]
theorem root_step {ps:List Int} (hF:Forest ps) {i:Nat} (hi:i<ps.length):root ps i=root ps (par ps i):=by
 have hp:=(hF.par hi).2
 by_cases e:par ps i=i
 ·rw[e]
 ·unfold root
  cases i with
  | zero=>omega
  | succ i=>
   simp only[rootN]
   rw[if_neg e]
   exact rootN_fuel hF _ _ _ (by omega) (Nat.le_refl _) (by omega)
theorem root_spec {ps:List Int} (hF:Forest ps):∀i,i<ps.length→par ps (root ps i)=root ps i∧root ps i≤i:=by
 intro i
 induction i using Nat.strongRecOn with
 | ind i ih=>
  intro hi
  have hp:=(hF.par hi).2
  by_cases e:par ps i=i
  ·rw[root_fix e];exact ⟨e,Nat.le_refl _⟩
  ·rw[root_step hF hi]
   obtain ⟨h1,h2⟩:=ih (par ps i) (by omega) (by omega)
   exact ⟨h1,by omega⟩
theorem nth_set_eq {l:List Int} {i:Nat} {x:Int} (h:i<l.length):nth (l.set i x) i=x:=by simp[nth,h]
theorem nth_set_ne {l:List Int} {i j:Nat} {x:Int} (h:j≠i):nth (l.set i x) j=nth l j:=by simp[nth,List.getElem?_set_ne (fun e:i=j=>h e.symm)]
theorem par_set_eq {l:List Int} {i:Nat} {x:Nat} (h:i<l.length):par (l.set i x) i=x:=by unfold par;rw[nth_set_eq h];simp
theorem par_set_ne {l:List Int} {i j:Nat} {x:Nat} (h:j≠i):par (l.set i x) j=par l j:=by unfold par;rw[nth_set_ne h]
theorem Forest.set {ps:List Int} (hF:Forest ps) {i x:Nat} (hx:x≤i):Forest (ps.set i x):=by
 intro j hj
 simp at hj
 by_cases e:j=i
 ·subst e;rw[nth_set_eq hj];omega
 ·rw[nth_set_ne e];exact hF j hj
theorem root_halve {ps:List Int} (hF:Forest ps) {i:Nat} (hi:i<ps.length):
  ∀j,j<ps.length→root (ps.set i (par ps (par ps i):Nat)) j=root ps j:=by
 have hp:=(hF.par hi).2
 have hpp:=(hF.par (show par ps i<ps.length by omega)).2
 have hF':=hF.set (i:=i) (x:=par ps (par ps i)) (by omega)
 intro j
 induction j using Nat.strongRecOn with
 | ind j ih=>
  intro hj
  have hj':j<(ps.set i (par ps (par ps i):Nat)).length:=by simpa using hj
  by_cases e:j=i
  ·subst e
   rw[root_step hF' hj',par_set_eq hj]
   by_cases e2:par ps (par ps j)=j
   ·have e3:par ps j=j:=by omega
    have e4:par (ps.set j (par ps (par ps j):Nat)) j=j:=by rw[par_set_eq hj,e2]
    rw[e2]at e4 ⊢
    rw[root_fix e4,root_fix e3]
   ·rw[ih _ (by omega) (by omega),←root_step hF (show par ps j<ps.length by omega),←root_step hF hj]
  ·have hpj:=(hF.par hj).2
   by_cases e2:par ps j=j
   ·rw[root_fix e2,root_fix (by rw[par_set_ne e,e2])]
   ·rw[root_step hF' hj',par_set_ne e,ih _ (by omega) (by omega),←root_step hF hj]
theorem root_link {ps:List Int} (hF:Forest ps) {p q:Nat} (hq:q<ps.length) (hpq:p≤q) (hp:par ps p=p) (hqq:par ps q=q):
  ∀j,j<ps.length→root (ps.set q (p:Nat)) j=if root ps j=q then p else root ps j:=by
 have hF':=hF.set (i:=q) (x:=p) hpq
 intro j
 induction j using Nat.strongRecOn with
 | ind j ih=>
  intro hj
  have hj':j<(ps.set q (p:Nat)).length:=by simpa using hj
  by_cases e:j=q
  ·subst e
   rw[root_fix hqq,if_pos rfl,root_step hF' hj',par_set_eq hj]
   by_cases e2:p=j
   ·subst e2
    exact root_fix (by rw[par_set_eq hj])
   ·exact root_fix (by rw[par_set_ne e2,hp])
  ·have hpj:=(hF.par hj).2
   by_cases e2:par ps j=j
   ·rw[root_fix e2,if_neg e,root_fix (by rw[par_set_ne e,e2])]
   ·rw[root_step hF' hj',par_set_ne e,ih _ (by omega) (by omega),←root_step hF hj]
def idList (n:Nat):List Int:=(List.range n).map fun i:Nat=>(i:Int)
@[simp] theorem length_idList (n:Nat):(idList n).length=n:=by simp[idList]
theorem nth_idList {n i:Nat} (h:i<n):nth (idList n) i=i:=by simp[nth,idList,h]
theorem forest_idList (n:Nat):Forest (idList n):=by
 intro i hi
 simp at hi
 rw[nth_idList hi];omega
theorem root_idList {n i:Nat} (h:i<n):root (idList n) i=i:=root_fix (by unfold par;rw[nth_idList h];simp)
end Go.Proofs.YtaijafjfafbcfaaGreat
namespace Go.Proofs.YtaijafjfafbcfaaGreat
open Go.RowKit
structure Woods (w:World) (g:Nat) (ps qs:List Int):Prop where
 len:qs.length=ps.length
 forest:Forest qs
 roots:∀j,j<ps.length→root qs j=root ps j
 row:Row w g 3 (qs.map (Value.int .i64))
structure But (g:Nat) (w w':World):Prop where
 agree:∀S:Nat→Prop,¬S g→Agree S w w'
 below:∀B,B≤g→Below B w w'
theorem But.refl (g:Nat) (w:World):But g w w:=⟨fun S _=>.refl _ _,fun B _=>.refl _ _⟩
theorem But.trans {g:Nat} {a b c:World} (h:But g a b) (k:But g b c):But g a c:=⟨fun S hS=>(h.agree S hS).trans (k.agree S hS),fun B hB=>(h.below B hB).trans (k.below B hB)⟩
theorem But.setCell (g j:Nat) (u:Value) (w:World):But g w (w.setCell ⟨g,j,none⟩ u):=
 ⟨fun S hS=>.of_grown (grownBy_setCell w g j u) (fun b hb e=>hS (by cases e;exact hb)),fun B hB=>(Below.refl _ _).setCell hB u⟩
theorem But.drew (g:Nat) (w:World):But g w w.drew:=⟨fun S _=>⟨Nat.le_refl _,fun _ _ _=>rfl⟩,fun B _=>(Below.refl _ _).drew⟩
def RootP (w:World) (g:Nat) (ps:List Int) (i:Nat) (e:Ending) (w':World):Prop:=
 ∃qs,e=.returned (.int .i64 (root ps i:Int))∧Woods w' g ps qs∧But g w w'
theorem root_calls {w:World} {g P:Nat} {ps:List Int} (hR:Row w g 3 (ps.map (Value.int .i64))) (hP:w.cell? ⟨P,0,none⟩=some (.slice (some ⟨g,0,none⟩) ps.length ps.length)) (hne:P≠g)
  (hF:Forest ps) (i:Nat) (hi:i<ps.length):
  Calls Tryz.prog 53 #[.int .i64 i,.pointer (some ⟨P,0,none⟩)] w (RootP w g ps i):=by
 have hPl:P<w.heap.size:=World.block_lt_of_cell? w _ hP
 go_enter Tryz.func53,Tryz.ntmps53
 go_wp2
 go_loopw [0] (fun iv wr=>∃(c:Nat) (qs:List Int),iv=.int .i64 c∧c<ps.length∧root ps c=root ps i∧Woods wr g ps qs∧But g w wr) (fun iv _=>(intOf iv).toNat)
 case atStart=>exact ⟨i,ps,rfl,hi,rfl,⟨rfl,hF,fun _ _=>rfl,hR⟩,.refl _ _⟩
 case round=>
  obtain ⟨c,qs,rfl,hc,hroot,hw,hb⟩:=hrel
  have hcq:c<qs.length:=by rw[hw.len];exact hc
  have hPr:wr.cell? ⟨P,0,none⟩=some (.slice (some ⟨g,0,none⟩) ps.length ps.length):=
   (World.cell?_of_block ((hb.agree (fun b=>b=P) (fun e=>hne e.symm)).block P rfl hPl)).trans hP
  obtain ⟨x,hx⟩:∃x,x=par qs c:=⟨_,rfl⟩
  have h1:=hw.forest.par hcq
  rw[←hx]at h1
  have hxq:x<qs.length:=by omega
  obtain ⟨y,hy⟩:∃y,y=par qs x:=⟨_,rfl⟩
  have h2:=hw.forest.par hxq
  rw[←hy]at h2
  have c1:wr.cell? ⟨g,c,none⟩=some (.int .i64 (x:Int)):=hw.row.cell (by rw[List.getElem?_map,get?_nth hcq,h1.1];rfl)
  have c2:wr.cell? ⟨g,x,none⟩=some (.int .i64 (y:Int)):=hw.row.cell (by rw[List.getElem?_map,get?_nth hxq,h2.1];rfl)
  have f1:=hw.row.free c
  have hxp:x<ps.length:=by rw[←hw.len];exact hxq
  have HX:=Lib.hid hx
  have HY:=Lib.hid hy
  have hxc:=h1.2
  have hyx:=h2.2
  have HLEN:=Lib.hid hw.len
  have HR:=Lib.hid hroot
  clear hx hy h1 h2 hroot
  by_cases he:x=c
  ·have he':((x:Int) !=c)=false:=by simp[he]
   have HE:=Lib.hid he
   clear he
   go_wp2
   go_ret
   refine ⟨qs,?_,hw,hb⟩
   have hfix:root qs c=c:=root_fix (by rw[←HX.out,HE.out])
   have:root ps i=c:=by rw[←HR.out,←hw.roots c hc,hfix]
   rw[this]
   rfl
  ·have he':((x:Int) !=c)=true:=by simp;omega
   go_wp2
   go_region
   all_goals go_wp2
   go_roundw
   case rel=>
    have hl:=HLEN.out
    refine ⟨y,qs.set c (par qs (par qs c):Nat),by rfl,by omega,?_,⟨by simpa using hl,hw.forest.set (by rw[←HX.out,←HY.out];omega),?_,?_⟩,?_⟩
    ·have r1:=root_step hw.forest hcq
     rw[←HX.out]at r1
     have r2:=root_step hw.forest hxq
     rw[←HY.out]at r2
     rw[←HR.out,←hw.roots y (by omega),←hw.roots c hc,r1,r2]
    ·intro j hj
     rw[root_halve hw.forest hcq j (by omega),hw.roots j hj]
    ·rw[←HX.out,←HY.out,List.map_set]
     exact hw.row.set c _
    ·exact (hb.trans (But.setCell g c _ _)).trans (But.drew g _)
   case measure=>simp[intOf];omega
end Go.Proofs.YtaijafjfafbcfaaGreat
namespace Go.Proofs.YtaijafjfafbcfaaGreat
open Go.RowKit
end Go.Proofs.YtaijafjfafbcfaaGreat
namespace Go.Proofs.YtaijafjfafbcfaaGreat
open Go.RowKit
def meetS (a b:List Int):List Int:=labs (a.zip b)
end Go.Proofs.YtaijafjfafbcfaaGreat
namespace Go.Proofs.YtaijafjfafbcfaaGreat
open Go.RowKit
def RetL (B:Nat) (p:List Int×Int) (w':World) (r:Value):Prop:=∃v,r=.tuple #[v,.int .i64 p.2]∧Ints (fun b=>B≤b) w' v p.1
theorem RetL.nil (B:Nat) (w':World) {e e':Int} (h:e=e') {p:List Int×Int} (hp:p=([],e')):RetL B p w' (.tuple #[.slice none 0 0,.int .i64 e]):=by
 subst h hp;exact ⟨_,rfl,Ints.nil _ _⟩
theorem RetL.mk {B:Nat} {w':World} {v:Value} {l:List Int} {p:List Int×Int} (h:Ints (fun b=>B≤b) w' v l) (hp:p=(l,0)):RetL B p w' (.tuple #[v,.int .i64 0]):=by
 subst hp;exact ⟨_,rfl,h⟩
theorem checkS_small {l:List Int} (h:checkS l=0):l.length≤65536:=by
 unfold checkS at h;split at h
 ·omega
 ·omega
theorem bothS_len {a b:List Int} (h:bothS a b=0):a.length=b.length∧a.length≤65536:=by
 unfold bothS at h
 by_cases h1:checkS a=0
 ·have:=checkS_small h1
  simp only[h1,ne_eq,not_true_eq_false,if_false]at h
  by_cases h2:checkS b=0
  ·simp only[h2,not_true_eq_false,if_false]at h
   by_cases h3:a.length=b.length
   ·exact ⟨h3,this⟩
   ·simp[h3]at h
  ·simp[h2]at h
 ·simp[h1]at h
end Go.Proofs.YtaijafjfafbcfaaGreat
