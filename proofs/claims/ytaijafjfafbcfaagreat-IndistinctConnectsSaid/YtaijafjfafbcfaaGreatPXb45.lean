/- Part of the proof that the laws answer true for every input. -/
import Derived.Test.YtaijafjfafbcfaaGreatPXb44
set_option linter.unusedSimpArgs false
set_option linter.unnecessarySimpa false
set_option linter.unusedVariables false
set_option maxRecDepth 100000
set_option maxHeartbeats 40000000
namespace Go.Proofs.YtaijafjfafbcfaaGreat
open Go.RowKit Go.Shelf
attribute [local go_sem ↓] Go.wp_at_zero Go.wp_at_succ
attribute [local go_sem] Oper.semAt_some
structure WlkS (s:SysF) (y x0 d FB:Nat) (fa:Option Addr) (fc:Nat) (w w4:World) (ds:List Deferred) (wr:World):Prop where
 ex:∃(k x:Nat) (wv:Value),k≤d∧x=xsE s y x0 k∧Below w.heap.size w wr∧Row wr (w.heap.size+1) 3 [.int .i64 x]∧Row wr FB 44 [.slice fa s.ex.length fc]∧Row wr (FB+1+1) 53 [wv]∧Hid (OwnK (kFlat 2) 70 (FB+1) (fun _=>False) wr wv (wlkTo s y x0 k))∧Agree (fun b=>b<FB∧b≠w.heap.size+1) w4 wr∧Hid (Marks w.heap.size wr ds)
structure WlkI (s:SysF) (y x:Nat) (w w5:World) (pre:List {x_:Nat // x_<s.ex.length∧adjB s x x_=true}) (W:World):Prop where
 no:∀z∈pre.map (·.1),dstV s y z≠dstV s y x - 1
 ag:Agree (fun b=>b<w5.heap.size) w5 W
 bel:Below w.heap.size w W
structure WlkX (s:SysF) (y x x0 k FB:Nat) (wv:Value) (w w5:World) (pre:List {x_:Nat // x_<s.ex.length∧adjB s x x_=true}) (W:World):Prop where
 ex:∃(l:List Nat) (z:Nat) (wv':Value),pre.map (·.1)=l++[z]∧(∀t∈l,dstV s y t≠dstV s y x - 1)∧dstV s y z=dstV s y x - 1∧Row W (w.heap.size+1) 3 [.int .i64 z]∧Row W (FB+1+1) 53 [wv']∧OwnK (kFlat 2) 70 (FB+1) (fun _=>False) W wv' (wlkTo s y x0 k++[[(z:Int),(lowP s x z:Int)]])∧True∧Agree (fun b=>b<w5.heap.size∧b≠w.heap.size+1∧b≠FB+1+1∧wv.ownBlock≠some b) w5 W∧Below w.heap.size w W
theorem nxt_of {s:SysF} {y x z:Nat} {l:List Nat} (hx:x<s.ex.length) (h:l++[z]<+:nbL s x) (hno:∀t∈l,dstV s y t≠dstV s y x - 1) (hz:dstV s y z=dstV s y x - 1) (h0:0<dstV s y x):nxtE s y x=z:=by
 obtain ⟨h1,h2,rfl⟩:=nb_ahead h
 obtain ⟨n1,n2,n3,n4⟩:=nxt_spec hx h0
 rcases Nat.lt_trichotomy (nxtE s y x) z with h3 | h3 | h3
 ·exact absurd n3 (hno _ (mem_nbTo.2 ⟨h3,n2⟩))
 ·exact h3
 ·exact absurd ⟨h2,hz⟩ (n4 z h3)
theorem nxt_in {s:SysF} {y x:Nat} (hx:x<s.ex.length) (h0:0<dstV s y x):nxtE s y x∈nbL s x∧dstV s y (nxtE s y x)=dstV s y x - 1:=by
 obtain ⟨n1,n2,n3,_⟩:=nxt_spec hx h0
 exact ⟨mem_nbTo.2 ⟨n1,n2⟩,n3⟩
theorem pWalk_calls {S:Nat→Prop} {w:World} {v:Value} {s:SysF} (e f:Int) (he:WF e) (hf':WF f) (h:SysV S w v s) (hf:PFew s.p):
  Calls Tryz.prog 19 #[v,.int .i64 e,.int .i64 f] w (Post w (WlkR w.heap.size s e f)):=by
 have KS:Hid (∀(S2:Nat→Prop) W vl,Below w.heap.size w W→Ints S2 W vl [e,f]→Calls Tryz.prog 33 #[v,vl] W (Post W (ScnR W.heap.size s e f))):=Lib.hid fun S2 W vl hW hl=>scene_calls e f (h.ext hW) hf hl
 have KB:Hid (thE s e f=0→s.N≤5∧s.ex.length≤4096∧∃x y:Nat,e=x∧f=y∧x<s.ex.length∧y<s.ex.length∧(∀w' u,0≤dstV s y x→Sl (kFlat 2) (fun b=>w.heap.size≤b) w' u (wlkL s y x)→WlkR w.heap.size s e f w' (.tuple #[u,.bool true,.int .i64 0]))∧(∀w',dstV s y x<0→WlkR w.heap.size s e f w' (.tuple #[.slice none 0 0,.bool false,.int .i64 0]))):=Lib.hid fun h0=>by
  obtain ⟨h1,x,y,rfl,rfl,hx,hy⟩:=thE_ok h0
  exact ⟨(good_sys h1 h.moves8).pok.n1.2,ex_le h1 (good_sys h1 h.moves8),x,y,rfl,rfl,hx,hy,fun w' u hd hu=>wlk_ok h0 hd hu,fun w' hd=>wlk_no h0 hd⟩
 have HE:Hid (∀w',thE s e f≠0→WlkR w.heap.size s e f w' (.tuple #[.slice none 0 0,.bool false,.int .i64 (thE s e f)])):=Lib.hid fun w' h=>.inr ⟨h,rfl⟩
 obtain ⟨LR,hLR⟩:∃LR,LR=WlkR w.heap.size s e f:=⟨_,rfl⟩
 rw[←hLR]at KB HE ⊢
 have HWF:Hid (∀x∈[e,f],WF x):=Lib.hid fun x hx=>by
  rcases List.mem_cons.1 hx with rfl | hx
  ·exact he
  ·rw[List.mem_singleton.1 hx];exact hf'
 obtain ⟨vc,vs,vt,vx,rfl,hc,hs,ht,hx⟩:=h
 obtain ⟨ca,cc,rfl,_⟩:=hc.form
 obtain ⟨sa,sc,rfl,_⟩:=hs.form
 obtain ⟨ta,tc,rfl,_⟩:=ht.form
 obtain ⟨xa,xc,rfl,xad,_⟩:=hx.form2
 have R00:=(row_new w [.int .i64 s.p.n,.int .i64 s.p.ins,.int .i64 s.p.outs,.slice ca s.p.cs.length cc,.int .i64 s.p.an,.slice sa s.p.st.length sc,.int .i64 s.p.rounds,.int .i64 s.tn,.slice ta s.tab.length tc,.slice xa s.ex.length xc] 35).alloc (.cells #[.int .i64 e] 3)
 have RE:=(row_new (w.alloc (.cells #[.int .i64 s.p.n,.int .i64 s.p.ins,.int .i64 s.p.outs,.slice ca s.p.cs.length cc,.int .i64 s.p.an,.slice sa s.p.st.length sc,.int .i64 s.p.rounds,.int .i64 s.tn,.slice ta s.tab.length tc,.slice xa s.ex.length xc] 35)) [.int .i64 e] 3).alloc (.cells #[.int .i64 e,.int .i64 f] 3)
 have RL:=row_new ((w.alloc (.cells #[.int .i64 s.p.n,.int .i64 s.p.ins,.int .i64 s.p.outs,.slice ca s.p.cs.length cc,.int .i64 s.p.an,.slice sa s.p.st.length sc,.int .i64 s.p.rounds,.int .i64 s.tn,.slice ta s.tab.length tc,.slice xa s.ex.length xc] 35)).alloc (.cells #[.int .i64 e] 3)) [.int .i64 e,.int .i64 f] 3
 have HL:=Lib.hid (RL.ints (l:=[e,f]) (by simp[maxLen]) HWF.out)
 have ex2:=ext_alloc' (ext_alloc' (ext_alloc w (.cells #[.int .i64 s.p.n,.int .i64 s.p.ins,.int .i64 s.p.outs,.slice ca s.p.cs.length cc,.int .i64 s.p.an,.slice sa s.p.st.length sc,.int .i64 s.p.rounds,.int .i64 s.tn,.slice ta s.tab.length tc,.slice xa s.ex.length xc] 35)) (.cells #[.int .i64 e] 3)) (.cells #[.int .i64 e,.int .i64 f] 3)
 have hsz2:(((w.alloc (.cells #[.int .i64 s.p.n,.int .i64 s.p.ins,.int .i64 s.p.outs,.slice ca s.p.cs.length cc,.int .i64 s.p.an,.slice sa s.p.st.length sc,.int .i64 s.p.rounds,.int .i64 s.tn,.slice ta s.tab.length tc,.slice xa s.ex.length xc] 35)).alloc (.cells #[.int .i64 e] 3)).alloc (.cells #[.int .i64 e,.int .i64 f] 3)).heap.size=w.heap.size+3:=by simp
 have t0:=R00.cell (j:=0) rfl
 have t1:=R00.cell (j:=1) rfl
 have t2:=R00.cell (j:=2) rfl
 have t3:=R00.cell (j:=3) rfl
 have t4:=R00.cell (j:=4) rfl
 have t5:=R00.cell (j:=5) rfl
 have t6:=R00.cell (j:=6) rfl
 have t7:=R00.cell (j:=7) rfl
 have t8:=R00.cell (j:=8) rfl
 have t9:=R00.cell (j:=9) rfl
 have l0:=R00.lt
 have re:=(row_new (w.alloc (.cells #[.int .i64 s.p.n,.int .i64 s.p.ins,.int .i64 s.p.outs,.slice ca s.p.cs.length cc,.int .i64 s.p.an,.slice sa s.p.st.length sc,.int .i64 s.p.rounds,.int .i64 s.tn,.slice ta s.tab.length tc,.slice xa s.ex.length xc] 35)) [.int .i64 e] 3).cell (j:=0) rfl
 have le:=(row_new (w.alloc (.cells #[.int .i64 s.p.n,.int .i64 s.p.ins,.int .i64 s.p.outs,.slice ca s.p.cs.length cc,.int .i64 s.p.an,.slice sa s.p.st.length sc,.int .i64 s.p.rounds,.int .i64 s.tn,.slice ta s.tab.length tc,.slice xa s.ex.length xc] 35)) [.int .i64 e] 3).lt
 simp only[World.size_alloc]at HL RE re le
 clear hc hs ht hx xad hf hLR RL he hf' R00
 refine (callsIn_wide (n:=6)).1 ?_
 refine callsIn_of_wp_marks Tryz.func19 rfl trivial ?_ rfl
 simp only[Tryz.ntmps19,List.size_toArray,List.length_cons,List.length_nil,Nat.reduceAdd,Nat.reduceSub,Array.replicate_succ,Array.replicate_zero,List.push_toArray,List.append_toArray,List.nil_append,List.cons_append]
 refine wpIn_wide.2 ?_
 go_wp2_with fail
 refine (KS.out _ _ _ ex2 HL.out).mono ?_
 rintro _ w1 ⟨_,rfl,hb,hO⟩
 have ex:=ext_trans ex2 hb
 replace RE:=RE.ext hb
 have hs1:=hb.size
 rw[hsz2]at hs1 hO
 clear KS HL ex2 t0 t1 t2 t3 t4 t5 t6 t7 t8 t9 l0 hb re le hsz2
 rcases hO with ⟨hv,g,la,lc,rfl,hF⟩ | ⟨hv,rfl⟩
 case inr=>
  have RR:=Lib.hid (HE.out w1 hv)
  obtain ⟨t,htt⟩:∃t,t=thE s e f:=⟨_,rfl⟩
  rw[←htt]at RR hv ⊢
  have d0:(t !=0)=true:=by simp[hv]
  clear htt hv
  go_wp2
  refine bodyM_ret ?_
  exact ⟨.tuple #[.slice none 0 0,.bool false,.int .i64 t],by simp[results,Tryz.results19,go_sem],.mk ex RR.out⟩
 obtain ⟨hN5,hxl,x0,y,rfl,rfl,hx,hy,h1,h2⟩:=KB.out hv
 have H1:=Lib.hid h1
 have H2:=Lib.hid h2
 have HDL:=Lib.hid (dstL_len s y)
 have HDA:=Lib.hid (fun z (hz:z<s.ex.length)=>dstL_at s y hz)
 have KD:=Lib.hid (distances_calls hF hxl hN5 hy)
 have HF:Hid (FinT (fun b=>w.heap.size+2≤b∧b<w1.heap.size) w1 g la lc s):=Lib.hid ⟨⟨by have:=hF.base;omega,hF.row.lt⟩,hF.row,hF.lists.block.mono fun b hb=>⟨by have:=hb.1.1;omega,hb.2⟩⟩
 have d0:((0:Int) !=0)=false:=rfl
 clear hv h1 h2 KB HE hF
 go_wp2_with fail
 refine KD.out.mono ?_
 rintro _ w2 ⟨fv,rfl,hb,hi⟩
 have hex2:=ext_trans ex hb
 obtain ⟨fa,fc,rfl,_⟩:=hi.form
 rw[HDL.out]
 have FC:=row_new w2 [.slice fa s.ex.length fc] 44
 have ea:=ext_alloc w2 (.cells #[.slice fa s.ex.length fc] 44)
 have hi3:=((hi.block 0).mono (S':=fun b=>w1.heap.size≤b∧b<w2.heap.size) fun b hb=>hb).ext ea
 have RE3:=(RE.ext hb).alloc (.cells #[.slice fa s.ex.length fc] 44)
 have ex3:=ext_trans hex2 ea
 have HF3:=Lib.hid (HF.out.ext (ext_trans hb ea))
 have hw12:=hb.size
 have qe:=hi3.idx (k:=x0) (by rw[HDL.out];exact hx)
 rw[HDL.out]at qe
 have ce:=hi3.cellN (k:=x0) (by rw[HDL.out];exact hx)
 rw[HDA.out x0 hx]at ce
 have HFA:=Lib.hid hi3
 obtain ⟨dd,hdd⟩:∃dd,dd=dstV s y x0:=⟨_,rfl⟩
 rw[←hdd]at ce H1 H2
 have be:=World.block_lt_of_cell? _ _ ce
 have cf:=FC.cell (j:=0) rfl
 have lf:=FC.lt
 have re:=RE3.cell (j:=0) rfl
 have le:=RE3.lt
 obtain ⟨FB,hFB⟩:∃FB,FB=w2.heap.size:=⟨_,rfl⟩
 have hs3:(w2.alloc (.cells #[.slice fa s.ex.length fc] 44)).heap.size=FB+1:=by rw[hFB];simp
 have hFB1:w.heap.size+3≤FB:=by omega
 have hw1F:w1.heap.size≤FB:=by omega
 have HW2F:Hid (w2.heap.size=FB):=Lib.hid hFB.symm
 rw[←hFB]at FC cf lf
 by_cases hd0:dd<0
 case pos=>
  have RR:=Lib.hid (fun w'=>H2.out w' hd0)
  have d1:decide (dd<0)=true:=decide_eq_true hd0
  clear hd0 hdd hi hi3 hb hex2 ex ea
  go_upto_region 5 with fail
  rw[←hFB]
  clear hFB
  go_wp2
  refine bodyM_ret ?_
  exact ⟨.tuple #[.slice none 0 0,.bool false,.int .i64 0],by simp[results,Tryz.results19,go_sem],.mk ex3 (RR.out _)⟩
 have d1:decide (dd<0)=false:=decide_eq_false hd0
 obtain ⟨d,hd⟩:∃d:Nat,dstV s y x0=d:=⟨dd.toNat,by omega⟩
 have HD:=Lib.hid hd
 have hdn:d<s.ex.length:=by have:=dst_bound y hx;omega
 have HR2:Hid (∀w' u,Sl (kFlat 2) (fun b=>w.heap.size≤b) w' u (wlkTo s y x0 d)→LR w' (.tuple #[u,.bool true,.int .i64 0])):=Lib.hid fun w' u h=>H1.out w' u (by omega) (by rw[wlkL_of HD.out];exact h)
 clear hd0 hdd hd hi hi3 hb hex2 ex ea H1 H2
 go_upto_region 5 with fail
 rw[←hFB]
 obtain ⟨w3,hw3⟩:∃w3,w3=w2.alloc (.cells #[.slice fa s.ex.length fc] 44):=⟨_,rfl⟩
 rw[←hw3]at FC RE3 ex3 HF3 ce HFA be cf lf re le hs3 ⊢
 clear hw3 hFB RE
 have WR:=(row_new w3 [.int .i64 x0,.int .i64 (-1)] 70).alloc (.cells #[.slice (some ⟨w3.heap.size,0,none⟩) 1 1] 53)
 have WC:=row_new (w3.alloc (.cells #[.int .i64 x0,.int .i64 (-1)] 70)) [.slice (some ⟨w3.heap.size,0,none⟩) 1 1] 53
 have ea:=ext_alloc' (ext_alloc w3 (.cells #[.int .i64 x0,.int .i64 (-1)] 70)) (.cells #[.slice (some ⟨w3.heap.size,0,none⟩) 1 1] 53)
 rw[World.size_alloc]at WC
 have HO0:Hid (OwnK (kFlat 2) 70 (FB+1) (fun _=>False) ((w3.alloc (.cells #[.int .i64 x0,.int .i64 (-1)] 70)).alloc (.cells #[.slice (some ⟨w3.heap.size,0,none⟩) 1 1] 53)) (.slice (some ⟨w3.heap.size,0,none⟩) 1 1) (wlkTo s y x0 0)):=Lib.hid (own_word (l:=[[(x0:Int), -1]]) (WR.ownsW (n:=1) (z:=2) (by omega) rfl (by unfold maxLen;omega)) (fun r hr=>by
  rw[List.mem_singleton.1 hr]
  exact ⟨rfl,fun z hz=>by
   rcases List.mem_cons.1 hz with rfl | hz
   ·exact WF.small (by omega)
   ·rw[List.mem_singleton.1 hz];exact WF.small (by omega)⟩))
 have FC4:=FC.ext ea
 have RE4:=RE3.ext ea
 have ex4:=ext_trans ex3 ea
 have HF4:=Lib.hid (HF3.out.ext ea)
 have HFA4:=Lib.hid (HFA.out.ext ea)
 clear FC RE3 ex3 HF3 HFA WR ea
 go_wp2
 obtain ⟨w4,hw4⟩:∃w4,w4=(w3.alloc (.cells #[.int .i64 x0,.int .i64 (-1)] 70)).alloc (.cells #[.slice (some ⟨w3.heap.size,0,none⟩) 1 1] 53):=⟨_,rfl⟩
 rw[hs3]at HO0 WC hw4 FC4 RE4 ex4 HF4 HFA4
 rw[←hw4]at WC HO0 FC4 RE4 ex4 HF4 HFA4 ⊢
 have hs4:w4.heap.size=FB+3:=by rw[hw4];simp;omega
 have HS4:=Lib.hid hs4
 have HDB:=Lib.hid (xs_spec hx HD.out)
 have HXN:=Lib.hid (fun k (hk:k<d)=>xs_not (k:=k) hx HD.out hk)
 have HXL:=Lib.hid (xs_last hx HD.out)
 have HMK0:=Lib.hid (Marks.nil w.heap.size w4)
 have HA0:Agree (fun b=>b<FB∧b≠w.heap.size+1) w4 w4:=.refl _ _
 rw[HW2F.out]at HFA4
 clear hw4 hs4 hs3 qe ce be cf lf re le d0 d1 w3
 refine wp_loop (fun a' wr=>∃(ds:List Deferred) (u37 u38 u39 u40 u41 u42:Value),WlkS s y x0 d FB fa fc w w4 ds wr∧a'={tmps:=#[.agg #[.int .i64 s.p.n,.int .i64 s.p.ins,.int .i64 s.p.outs,.slice ca s.p.cs.length cc,.int .i64 s.p.an,.slice sa s.p.st.length sc,.int .i64 s.p.rounds,.int .i64 s.tn,.slice ta s.tab.length tc,.slice xa s.ex.length xc],.int .i64 x0,.int .i64 y,.pointer (some ⟨w.heap.size,0,none⟩),.pointer (some ⟨w.heap.size+1,0,none⟩),undef,.slice none 0 0,.bool false,.int .i64 0,.pointer (some ⟨g,0,none⟩),.int .i64 0,.pointer (some ⟨FB,0,none⟩),.pointer (some ⟨FB+1+1,0,none⟩),undef,undef,.tuple #[.pointer (some ⟨g,0,none⟩),.int .i64 0],.agg #[.int .i64 s.p.n,.int .i64 s.p.ins,.int .i64 s.p.outs,.slice ca s.p.cs.length cc,.int .i64 s.p.an,.slice sa s.p.st.length sc,.int .i64 s.p.rounds,.int .i64 s.tn,.slice ta s.tab.length tc,.slice xa s.ex.length xc],.int .i64 x0,.int .i64 y,.slice (some ⟨w.heap.size+1+1,0,none⟩) 2 2,.tuple #[.pointer (some ⟨g,0,none⟩),.int .i64 0],.pointer (some ⟨g,0,none⟩),.int .i64 0,.int .i64 0,.bool false,undef,.pointer (some ⟨g,0,none⟩),.int .i64 y,.slice fa s.ex.length fc,.slice fa s.ex.length fc,.int .i64 x0,.pointer (some (adr fa x0)),.int .i64 dd,.bool false,.int .i64 x0,.agg #[.int .i64 x0,.int .i64 (-1)],.slice (some ⟨FB+1,0,none⟩) 1 1,u37,u38,u39,u40,u41,u42,undef,undef,undef,undef,undef,undef,undef,undef,undef,undef,undef,undef,undef,undef,undef,undef,undef,undef,undef,undef],defers:=ds}) (fun a' wr=>d+1 - lenC wr (a'.tmps.getD 12 undef)) ?_ ?_
 ·(repeat apply Exists.intro)
  refine ⟨?_,rfl⟩
  exact ⟨⟨0,x0,_,Nat.zero_le _,rfl,ex4,RE4,FC4,WC,HO0,HA0,HMK0⟩⟩
 ·intro _ wr hinv
  obtain ⟨ds,u37,u38,u39,u40,u41,u42,hrel,ha⟩:=hinv
  subst ha
  clear ex4 RE4 FC4 WC HO0 HMK0 HA0
  obtain ⟨k,x,wv,hk,hxe,hb,RE,FC,WC,HO,hA4,HMK⟩:=hrel.ex
  clear hrel
  have HXE:=Lib.hid hxe
  obtain ⟨hxn,hxd⟩:=HDB.out k hk
  rw[←hxe]at hxn hxd
  have re:=RE.cell (j:=0) rfl
  have le:=RE.lt
  have cw:=WC.cell (j:=0) rfl
  have lw:=WC.lt
  by_cases hkd:k<d
  case neg=>
   obtain rfl:k=d:=by omega
   have hxy:x=y:=by rw[hxe];exact HXL.out
   have dx:((x:Int) !=(y:Int))=false:=by simp[hxy]
   obtain ⟨oa,oc,hwv,_⟩:=HO.out.form
   rw[wlkTo_len]at hwv
   subst hwv
   have HSL:=Lib.hid ((HO.out.sl (by rw[wlkTo_len];omega)).mono (S':=fun b=>w.heap.size≤b) fun b hb=>by rcases hb with hb | hb;exact hb.elim;omega)
   have HB:=Lib.hid hb
   have HOO:=HO
   have HMK':=HMK
   obtain ⟨xs,hown,_⟩:=HO.out
   have HOW:=Lib.hid hown
   clear hxe hxd hxy RE FC WC hA4 hb hown
   go_wp2
   refine bodyM_ret (leaves_marks HMK.out HB.out.size fun W' hbel hrow=>?_)
   refine ⟨.tuple #[.slice oa (k+1) oc,.bool true,.int .i64 0],by simp[results,Tryz.results19,go_sem],.mk (HB.out.trans hbel) (HR2.out W' _ ?_)⟩
   rcases HOW.out.2 with ⟨h1,h2⟩ | ⟨g9,cap9,cur9,hv9,_,hg9,_⟩
   ·rw[wlkTo_len]at h2;omega
   ·simp only[Value.slice.injEq]at hv9
    obtain ⟨rfl,_,rfl⟩:=hv9
    have hr9:=hrow g9 70 cur9.toList (by unfold Row;simpa using hg9)
    have hag:Agree (fun b=>b=g9) wr W':=⟨hbel.size,fun b hb _=>by
     rw[hb,hg9];unfold Row at hr9;simpa using hr9⟩
    exact (((HOO.out.agree hag (fun j hj=>by cases hj;rfl) (fun b hb=>hb.elim)).sl (by rw[wlkTo_len];omega)).mono fun b hb=>by rcases hb with hb | hb;exact hb.elim;omega)
  have hxy:x≠y:=by rw[hxe];exact HXN.out k hkd
  have dx:((x:Int) !=(y:Int))=true:=by rw[bne_iff_ne];omega
  obtain ⟨oa,oc,hwv,_⟩:=HO.out.form
  rw[wlkTo_len]at hwv
  subst hwv
  have lg:=((HF4.out.agree (hA4.mono fun b hb=>⟨by omega,by omega⟩)).row).lt
  have KN:=Lib.hid (nbrsM_calls wr g x)
  clear hxe hxy
  go_wp2_with fail
  refine KN.out.mono ?_
  rintro _ _ ⟨rfl,rfl⟩
  clear KN re le cw lw lg dx
  have RC1:=(row_new wr [.pointer (some ⟨g,0,none⟩)] 83).alloc (.cells #[.int .i64 x] 3)
  have RC2:=row_new (wr.alloc (.cells #[.pointer (some ⟨g,0,none⟩)] 83)) [.int .i64 x] 3
  rw[World.size_alloc]at RC2
  have hb5:Below wr.heap.size wr ((wr.alloc (.cells #[.pointer (some ⟨g,0,none⟩)] 83)).alloc (.cells #[.int .i64 x] 3)):=ext_alloc' (ext_alloc wr _) _
  have hz5:((wr.alloc (.cells #[.pointer (some ⟨g,0,none⟩)] 83)).alloc (.cells #[.int .i64 x] 3)).heap.size=wr.heap.size+2:=by simp
  obtain ⟨w5,hw5⟩:∃w5,w5=(wr.alloc (.cells #[.pointer (some ⟨g,0,none⟩)] 83)).alloc (.cells #[.int .i64 x] 3):=⟨_,rfl⟩
  rw[←hw5]at RC1 RC2 hb5 hz5 ⊢
  have hx5:=ext_trans hb hb5
  have RE5:=RE.ext hb5
  have FC5:=FC.ext hb5
  have WC5:=WC.ext hb5
  have HO5:=Lib.hid (HO.out.ext hb5)
  have HM5:=Lib.hid (HMK.out.ext hb5)
  have hA5:Agree (fun b=>b<FB∧b≠w.heap.size+1) w4 w5:=hA4.trans (.of_ext hb5)
  have hwrs:=hA4.size
  have hs4:=HS4.out
  have hMS:lenC wr (.pointer (some ⟨FB+1+1,0,none⟩))=k+1:=by
   rw[lenC_eq (WC.cell (j:=0) rfl)];rfl
  have HMS:=Lib.hid hMS
  obtain ⟨NB,hNB⟩:∃NB,NB=wr.heap.size:=⟨_,rfl⟩
  rw[←hNB]at RC1 RC2 hz5 hwrs ⊢
  have hTw:∀b,((w.heap.size+2≤b∧b<w1.heap.size)∨b=NB∨b=NB+1)→b<w5.heap.size:=fun b hb=>by omega
  have HF5:=Lib.hid (HF4.out.agree (hA5.mono fun b hb=>⟨by omega,by omega⟩))
  have HFA5:=Lib.hid (HFA4.out.agree (hA5.mono fun b hb=>⟨by omega,by omega⟩))
  have HST:=nbrs_stops (T:=fun b=>(w.heap.size+2≤b∧b<w1.heap.size)∨b=NB∨b=NB+1) (n:=5) (by decide) RC1 RC2 (HF5.out.mono fun b hb=>.inl hb) hN5 hxn hxl (.inr (.inl rfl)) (.inr (.inr rfl)) hTw
  have HZ5:=Lib.hid hz5
  have HLTO:=Lib.hid HO.out.lt
  clear hw5 hNB RE FC WC hb hb5 HMK HO hA4 hMS RC1 RC2 HF5 hz5
  have hNBs:NB+2=w5.heap.size:=HZ5.out.symm
  go_wp2
  refine wpIn_wide (n:=6).1 ?_
  apply wpIn_rangeFunc_ownF (n:=6) rfl (by decide) (gf:=65) (lb:=#[.pointer (some ⟨NB,0,none⟩),.pointer (some ⟨NB+1,0,none⟩)]) rfl trivial (enters_of Tryz.func65 (by kernel_rfl) rfl)
   HST agreeK_t (agreeK_b hTw) (Below.refl _ _) (fun _=>rfl)
   (fun (pre:List {x_:Nat // x_<s.ex.length∧adjB s x x_=true}) W=>WlkI s y x w w5 pre W)
   (fun c (pre:List {x_:Nat // x_<s.ex.length∧adjB s x x_=true}) W=>c=.exit 2∧WlkX s y x x0 k FB (.slice oa (k+1) oc) w w5 pre W)
   (fun pre A C row h hg hr=>by
    obtain ⟨h1,h2,h3⟩:=h
    exact ⟨h1,h2.trans (.of_grown hg fun b hb e=>by have:=(hr _ e).1;omega),h3.grown hg h3.size (fun k hk=>by have:=(hr k hk).1;have:=hx5.size;omega)⟩)
   (fun c pre A C row h hg hr=>by
    obtain ⟨h0,⟨l,z,wv',h1,h2,h3,h4,h5,h6,h7,h8,h9⟩⟩:=h
    have hnb:∀b,b<w5.heap.size→row≠some b:=fun b hb e=>by have:=(hr _ e).1;omega
    refine ⟨h0,⟨l,z,wv',h1,h2,h3,h4.grown hg (hnb _ (by omega)),h5.grown hg (hnb _ (by omega)),h6.agree (T:=fun b=>row≠some b) (.of_grown hg fun b hb=>hb) (fun j hj e=>?_) (fun b hb=>hb.elim),h7,h8.trans (.of_grown hg fun b hb=>hnb b hb.1),h9.grown hg h9.size (fun k hk=>by have:=(hr k hk).1;have:=hx5.size;omega)⟩⟩
    obtain ⟨_,o,ho,hc⟩:=hr j e
    obtain ⟨xs,hown,_⟩:=h6
    rcases hown.2 with ⟨rfl,_⟩ | ⟨g9,cap9,cur9,rfl,_,hg9,_⟩
    ·cases hj
    ·cases hj
     rw[hg9]at ho
     cases ho
     cases hc)
   ⟨(fun z hz=>by cases hz),.refl _ _,hx5⟩
  case hassign=>
   intro l x W Kq hK
   have hK:=Lib.hid hK
   gi_wp2
   exact hK.out
  case hbody=>
   rintro l pre ⟨z,hzl,hza⟩ W ⟨hno,hA,hBW⟩ hlen
   have hwsz:=hA.size
   have RE6:=RE5.agree hA RE5.lt
   have FC6:=FC5.agree hA FC5.lt
   have WC6:=WC5.agree hA WC5.lt
   have HO6:=Lib.hid (HO5.out.agree (T:=fun b=>b<w5.heap.size) hA (fun j hj=>(HO5.out.lt j hj).2) (fun b hb=>hb.elim))
   have hfa6:=HFA5.out.agree (hA.mono fun b hb=>by omega)
   have qz:=hfa6.idx (k:=z) (by rw[HDL.out];exact hzl)
   have cz:=hfa6.cellN (k:=z) (by rw[HDL.out];exact hzl)
   have qx:=hfa6.idx (k:=x) (by rw[HDL.out];exact hxn)
   have cx:=hfa6.cellN (k:=x) (by rw[HDL.out];exact hxn)
   rw[HDL.out]at qz qx
   rw[HDA.out z hzl]at cz
   rw[HDA.out x hxn]at cx
   have hyb:=dst_bound y hxn
   have HPM:Hid ((pre++[(⟨z,hzl,hza⟩:{x_:Nat // x_<s.ex.length∧adjB s x x_=true})]).map (·.1)=pre.map (·.1)++[z]):=Lib.hid (by rw[List.map_append];rfl)
   have e0:=drewN_below W.heap.size W 1
   have HNO:=Lib.hid hno
   have HA:=Lib.hid hA
   have HBW:=Lib.hid hBW
   have hyw:=sub1_in (x:=dstV s y x) (by omega)
   have HS12:Hid ((fun w':World=>w'.cell? ⟨FB,0,none⟩=some (.slice fa s.ex.length fc)∧w'.cell? ⟨w.heap.size+1,0,none⟩=some (.int .i64 x)∧w'.cell? (adr fa z)=some (.int .i64 (dstV s y z))∧w'.cell? (adr fa x)=some (.int .i64 (dstV s y x))) W.drew):=Lib.hid ⟨cell_ext (FC6.cell (j:=0) rfl) e0,cell_ext (RE6.cell (j:=0) rfl) e0,cell_ext cz e0,cell_ext cx e0⟩
   obtain ⟨zz,hzz⟩:∃zz,zz=dstV s y z:=⟨_,rfl⟩
   obtain ⟨yx,hyx⟩:∃yx,yx=dstV s y x:=⟨_,rfl⟩
   rw[←hzz]at HS12
   rw[←hyx]at HS12 hyw
   have HZZ:=Lib.hid hzz
   have HYX:=Lib.hid hyx
   clear cz cx hfa6 hno hA hBW hyb hzz hyx
   by_cases hyy:zz=yx - 1
   case neg=>
    have d0:(zz==IntKind.i64.wrap (yx - 1))=false:=by rw[hyw];simp[hyy]
    have HI:=Lib.hid (show KeepsOthers W W.drew∧Agree (fun b=>(w.heap.size+2≤b∧b<w1.heap.size)∨b=NB∨b=NB+1) W W.drew∧WlkI s y x w w5 (pre++[(⟨z,hzl,hza⟩:{x_:Nat // x_<s.ex.length∧adjB s x x_=true})]) W.drew from ⟨keeps_below e0,.of_ext e0,⟨fun t ht=>by
     rw[HPM.out]at ht
     rcases List.mem_append.1 ht with ht | ht
     ·exact HNO.out t ht
     ·rw[List.mem_singleton.1 ht,←HZZ.out,←HYX.out];exact hyy,HA.out.trans (.of_ext e0),ext_trans HBW.out e0⟩⟩)
    clear hyw hyy RE6 FC6 WC6 e0
    gi_wp2
    refine region_EIn (fun w':World=>w'.cell? ⟨FB,0,none⟩=some (.slice fa s.ex.length fc)∧w'.cell? ⟨w.heap.size+1,0,none⟩=some (.int .i64 x)∧w'.cell? (adr fa z)=some (.int .i64 zz)∧w'.cell? (adr fa x)=some (.int .i64 yx)) (fun i=>false) (by kernel_rfl) (by kernel_rfl) (by rintro ⟨_,_,h⟩;exact h) ?_ (fun hHeld=>?_)
    ·exact HS12.out
    refine anyE_takeT 0 (v:=?_) rfl (by kernel_rfl) (fun _ _ _ h=>h) (by rfl) ?hy0a hHeld ?rest0a
    case hy0a=>(intro w hSw;(try dsimp only at hSw);go_simp;try with_reducible rfl)
    try simp only[Act.put,zsa,zsz,zss]
    refine anyE_takeT 1 (v:=?_) rfl (by kernel_rfl) (fun _ _ _ h=>h) (by rfl) ?hy1a hHeld ?rest1a
    case hy1a=>(intro w hSw;(try dsimp only at hSw);go_simp;try with_reducible rfl)
    try simp only[Act.put,zsa,zsz,zss]
    refine anyE_takeT 2 (v:=?_) rfl (by kernel_rfl) (fun _ _ _ h=>h) (by rfl) ?hy2a hHeld ?rest2a
    case hy2a=>(intro w hSw;(try dsimp only at hSw);go_simp;try with_reducible rfl)
    try simp only[Act.put,zsa,zsz,zss]
    refine anyE_takeT 3 (v:=?_) rfl (by kernel_rfl) (fun _ _ _ h=>h) (by rfl) ?hy3a hHeld ?rest3a
    case hy3a=>(intro w hSw;(try dsimp only at hSw);go_simp;try with_reducible rfl)
    try simp only[Act.put,zsa,zsz,zss]
    refine anyE_takeT 4 (v:=?_) rfl (by kernel_rfl) (fun _ _ _ h=>h) (by rfl) ?hy4a hHeld ?rest4a
    case hy4a=>(intro w hSw;(try dsimp only at hSw);go_simp;try with_reducible rfl)
    try simp only[Act.put,zsa,zsz,zss]
    refine anyE_takeT 5 (v:=?_) rfl (by kernel_rfl) (fun _ _ _ h=>h) (by rfl) ?hy5a hHeld ?rest5a
    case hy5a=>(intro w hSw;(try dsimp only at hSw);go_simp;try with_reducible rfl)
    try simp only[Act.put,zsa,zsz,zss]
    refine anyE_takeT 6 (v:=?_) rfl (by kernel_rfl) (fun _ _ _ h=>h) (by rfl) ?hy6a hHeld ?rest6a
    case hy6a=>(intro w hSw;(try dsimp only at hSw);go_simp;try with_reducible rfl)
    try simp only[Act.put,zsa,zsz,zss]
    refine anyE_takeT 7 (v:=?_) rfl (by kernel_rfl) (fun _ _ _ h=>h) (by rfl) ?hy7a hHeld ?rest7a
    case hy7a=>(intro w hSw;(try dsimp only at hSw);go_simp;try with_reducible rfl)
    try simp only[Act.put,zsa,zsz,zss]
    refine anyE_takeT 8 (v:=?_) rfl (by kernel_rfl) (fun _ _ _ h=>h) (by rfl) ?hy8a hHeld ?rest8a
    case hy8a=>(intro w hSw;(try dsimp only at hSw);go_simp;try with_reducible rfl)
    try simp only[Act.put,zsa,zsz,zss]
    refine anyE_takeT 9 (v:=?_) rfl (by kernel_rfl) (fun _ _ _ h=>h) (by rfl) ?hy9a hHeld ?rest9a
    case hy9a=>(intro w hSw;(try dsimp only at hSw);go_simp;try with_reducible rfl)
    try simp only[Act.put,zsa,zsz,zss]
    refine anyE_done (by kernel_rfl) ?_ _
    clear hHeld HS12 d0
    gi_wp2
    exact HI.out
   have d0:(zz==IntKind.i64.wrap (yx - 1))=true:=by rw[hyw];simp[hyy]
   obtain ⟨W2,hW2⟩:∃W2,W2=W.drew:=⟨_,rfl⟩
   have e2:Below W.heap.size W W2:=by rw[hW2];exact e0
   have hWs:W2.heap.size=W.heap.size:=by rw[hW2];simp
   have RE7:=RE6.ext e2
   have WC7:=WC6.ext e2
   have HO7:=Lib.hid (HO6.out.ext e2)
   have hplo:lowP s x z<s.N:=(low_spec (adjB_iff.1 hza).1).1
   have HPB:Hid (lowP s x z<s.N):=Lib.hid hplo
   obtain ⟨pz,hpz⟩:∃pz,pz=lowP s x z:=⟨_,rfl⟩
   rw[←hpz]at HPB ⊢
   have HPZ:=Lib.hid hpz
   have hEBo:(Value.slice oa (k+1) oc).ownBlock≠some (w.heap.size+1):=fun e=>by have:=(HO5.out.lt _ e).1;omega
   have hapW:∀(V:World) (u:Value) (l9:List (List Int)) (v9:Value),OwnK (kFlat 2) 70 (FB+1) (fun _=>False) V v9 l9→Row V (FB+1+1) 53 [u]→v9.ownBlock≠some (FB+1+1):=fun V u l9 v9 ho hr e=>by
    obtain ⟨xs,hown,_⟩:=ho
    rcases hown.2 with ⟨rfl,_⟩ | ⟨g9,cap9,cur9,rfl,_,hg9,_⟩
    ·cases e
    ·cases e
     unfold Row at hr
     rw[hr]at hg9
     injection hg9 with hg9
     injection hg9 with _ h3
     exact absurd h3 (by decide)
   have HAPO:Hid ((Value.slice oa (k+1) oc).ownBlock≠some (FB+1+1)):=Lib.hid (hapW W2 _ _ _ HO7.out WC7)
   have HFIN:Hid (∀g6 c6 w6,OwnK (kFlat 2) 70 (FB+1) (fun _=>False) w6 (.slice (some ⟨g6,0,none⟩) (k+1+1) c6) (wlkTo s y x0 k++[[(z:Int),(pz:Int)]])→(W2.alloc (.cells #[.int .i64 z,.int .i64 pz] 70)).grownBy w6 (Value.slice oa (k+1) oc).ownBlock→KeepsOthers W ((w6.setCell ⟨FB+1+1,0,none⟩ (.slice (some ⟨g6,0,none⟩) (k+1+1) c6)).setCell ⟨w.heap.size+1,0,none⟩ (.int .i64 z))∧(Code.exit 2)=(Code.exit 2)∧WlkX s y x x0 k FB (.slice oa (k+1) oc) w w5 (pre++[(⟨z,hzl,hza⟩:{x_:Nat // x_<s.ex.length∧adjB s x x_=true})]) ((w6.setCell ⟨FB+1+1,0,none⟩ (.slice (some ⟨g6,0,none⟩) (k+1+1) c6)).setCell ⟨w.heap.size+1,0,none⟩ (.int .i64 z))):=Lib.hid fun g6 c6 w6 hown hgr=>by
    have hga:=World.grownBy_alloc W2 (.cells #[.int .i64 z,.int .i64 pz] 70) none
    have hs1':=grownBy_setCell w6 (FB+1+1) 0 (.slice (some ⟨g6,0,none⟩) (k+1+1) c6)
    have hs2':=grownBy_setCell (w6.setCell ⟨FB+1+1,0,none⟩ (.slice (some ⟨g6,0,none⟩) (k+1+1) c6)) (w.heap.size+1) 0 (.int .i64 z)
    have hob:∀j,(Value.slice oa (k+1) oc).ownBlock=some j→FB+1≤j:=fun j hj=>(HO5.out.lt j hj).1
    have R6:=(WC7.alloc (.cells #[.int .i64 z,.int .i64 pz] 70)).grown hgr HAPO.out
    have RE6':=(RE7.alloc (.cells #[.int .i64 z,.int .i64 pz] 70)).grown hgr hEBo
    have hsa:(W2.alloc (.cells #[.int .i64 z,.int .i64 pz] 70)).heap.size=W2.heap.size+1:=by simp
    refine ⟨((((keeps_below e2).trans (.alloc W2 _)).trans (.of_grownBy hgr fun j o hj ho=>?_)).trans (.setCell _ _ _)).trans (.setCell _ _ _),rfl,⟨pre.map (·.1),z,_,HPM.out,HNO.out,by rw[←HZZ.out,←HYX.out];exact hyy,?_,(R6.set 0 _).grown hs2' (fun e=>by injection e with e;omega),?_,trivial,?_,?_⟩⟩
    ·obtain ⟨xs,hown7,_⟩:=HO7.out
     rcases hown7.2 with ⟨h8,_⟩ | ⟨g9,cap9,cur9,h8,_,hg9,_⟩
     ·rw[h8]at hj;cases hj
     ·rw[h8]at hj
      cases hj
      rw[Below.heap_alloc W2 _ _ (Array.getElem?_eq_some_iff.1 hg9).1,hg9]at ho
      cases ho;rfl
    ·exact (RE6'.grown hs1' (fun e=>by injection e with e;omega)).set 0 (.int .i64 z)
    ·rw[←HPZ.out]
     refine (hown.agree (T:=fun b=>b≠FB+1+1) (.of_grown hs1' fun b hb e=>by injection e with e;exact hb e.symm) (fun j hj e=>hapW w6 _ _ _ hown R6 (by rw[hj,e])) (fun b hb=>hb.elim)).agree (T:=fun b=>b≠w.heap.size+1) (.of_grown hs2' fun b hb e=>by injection e with e;exact hb e.symm) (fun j hj e=>?_) (fun b hb=>hb.elim)
     have:=(hown.lt j hj).1;omega
    ·exact ((((HA.out.mono fun b hb=>hb.1).trans (.of_ext e2)).trans (.of_grown hga (by simp))).trans (.of_grown hgr fun b hb=>hb.2.2.2)).trans (.of_grown hs1' fun b hb e=>by injection e with e;exact hb.2.2.1 e.symm) |>.trans (.of_grown hs2' fun b hb e=>by injection e with e;exact hb.2.1 e.symm)
    ·have hbw2:=ext_trans HBW.out e2
     exact (((hbw2.alloc hbw2.size _).grown hgr (by rw[hsa];have:=hbw2.size;omega) (fun j hj=>by have:=hob j hj;omega)).setCell (p:=⟨FB+1+1,0,none⟩) (by dsimp only;omega) _).setCell (p:=⟨w.heap.size+1,0,none⟩) (by dsimp only;omega) _
   have HLW:=Lib.hid (wlkTo_len s y x0 k)
   have HBY:Hid (((wlkTo s y x0 k).length+1) * 16≤140737488355328):=Lib.hid (by rw[HLW.out];omega)
   have HBN:Hid ((wlkTo s y x0 k).length<9223372036854775807):=Lib.hid (by rw[HLW.out];omega)
   have HBS:Hid (FB+1≤W2.heap.size):=Lib.hid (by rw[hWs];have:=WC6.lt;omega)
   have HRD:Hid ((kFlat 2).rd (fun b=>False∧(Value.slice oa (k+1) oc).ownBlock≠some b) W2 [.int .i64 z,.int .i64 pz] [(z:Int),(pz:Int)]):=Lib.hid ⟨rfl,rfl,fun t ht=>by
    rcases List.mem_cons.1 ht with rfl | ht
    ·exact WF.small (by omega)
    ·rw[List.mem_singleton.1 ht];have:=HPB.out;exact WF.small (by omega)⟩
   have HW2:=Lib.hid hW2
   have HR7:=Lib.hid (And.intro RE7 WC7)
   have HEBO:=Lib.hid hEBo
   obtain ⟨acc,hacc⟩:∃acc,acc=wlkTo s y x0 k:=⟨_,rfl⟩
   rw[←hacc]at HO7 HLW HBY HBN HFIN
   clear hyw hyy RE6 FC6 WC6 e0 e2 hWs RE7 WC7 hplo hpz hapW hEBo hW2 hacc HO6
   gi_wp2
   refine region_EIn (fun w':World=>w'.cell? ⟨FB,0,none⟩=some (.slice fa s.ex.length fc)∧w'.cell? ⟨w.heap.size+1,0,none⟩=some (.int .i64 x)∧w'.cell? (adr fa z)=some (.int .i64 zz)∧w'.cell? (adr fa x)=some (.int .i64 yx)) (fun i=>false) (by kernel_rfl) (by kernel_rfl) (by rintro ⟨_,_,h⟩;exact h) ?_ (fun hHeld=>?_)
   ·exact HS12.out
   refine anyE_takeT 0 (v:=?_) rfl (by kernel_rfl) (fun _ _ _ h=>h) (by rfl) ?hy0b hHeld ?rest0b
   case hy0b=>(intro w hSw;(try dsimp only at hSw);go_simp;try with_reducible rfl)
   try simp only[Act.put,zsa,zsz,zss]
   refine anyE_takeT 1 (v:=?_) rfl (by kernel_rfl) (fun _ _ _ h=>h) (by rfl) ?hy1b hHeld ?rest1b
   case hy1b=>(intro w hSw;(try dsimp only at hSw);go_simp;try with_reducible rfl)
   try simp only[Act.put,zsa,zsz,zss]
   refine anyE_takeT 2 (v:=?_) rfl (by kernel_rfl) (fun _ _ _ h=>h) (by rfl) ?hy2b hHeld ?rest2b
   case hy2b=>(intro w hSw;(try dsimp only at hSw);go_simp;try with_reducible rfl)
   try simp only[Act.put,zsa,zsz,zss]
   refine anyE_takeT 3 (v:=?_) rfl (by kernel_rfl) (fun _ _ _ h=>h) (by rfl) ?hy3b hHeld ?rest3b
   case hy3b=>(intro w hSw;(try dsimp only at hSw);go_simp;try with_reducible rfl)
   try simp only[Act.put,zsa,zsz,zss]
   refine anyE_takeT 4 (v:=?_) rfl (by kernel_rfl) (fun _ _ _ h=>h) (by rfl) ?hy4b hHeld ?rest4b
   case hy4b=>(intro w hSw;(try dsimp only at hSw);go_simp;try with_reducible rfl)
   try simp only[Act.put,zsa,zsz,zss]
   refine anyE_takeT 5 (v:=?_) rfl (by kernel_rfl) (fun _ _ _ h=>h) (by rfl) ?hy5b hHeld ?rest5b
   case hy5b=>(intro w hSw;(try dsimp only at hSw);go_simp;try with_reducible rfl)
   try simp only[Act.put,zsa,zsz,zss]
   refine anyE_takeT 6 (v:=?_) rfl (by kernel_rfl) (fun _ _ _ h=>h) (by rfl) ?hy6b hHeld ?rest6b
   case hy6b=>(intro w hSw;(try dsimp only at hSw);go_simp;try with_reducible rfl)
   try simp only[Act.put,zsa,zsz,zss]
   refine anyE_takeT 7 (v:=?_) rfl (by kernel_rfl) (fun _ _ _ h=>h) (by rfl) ?hy7b hHeld ?rest7b
   case hy7b=>(intro w hSw;(try dsimp only at hSw);go_simp;try with_reducible rfl)
   try simp only[Act.put,zsa,zsz,zss]
   refine anyE_takeT 8 (v:=?_) rfl (by kernel_rfl) (fun _ _ _ h=>h) (by rfl) ?hy8b hHeld ?rest8b
   case hy8b=>(intro w hSw;(try dsimp only at hSw);go_simp;try with_reducible rfl)
   try simp only[Act.put,zsa,zsz,zss]
   refine anyE_takeT 9 (v:=?_) rfl (by kernel_rfl) (fun _ _ _ h=>h) (by rfl) ?hy9b hHeld ?rest9b
   case hy9b=>(intro w hSw;(try dsimp only at hSw);go_simp;try with_reducible rfl)
   try simp only[Act.put,zsa,zsz,zss]
   refine anyE_done (by kernel_rfl) ?_ _
   rw[←HW2.out]
   clear hHeld HS12 d0 qz qx HW2
   have cw:=HR7.out.2.cell (j:=0) rfl
   have lw:=HR7.out.2.lt
   gi_wp2_with (gi_at_builtin;refine wpListIn_pushK (K:=kFlat 2) (w:=W2) (S:=fun _=>False) (base:=FB+1) (v:=.slice oa (k+1) oc) (l:=acc) rfl _ _ 53 rfl 70 _ 16 Tryz.underlying53 info_link rfl (by decide) rfl HO7.out (cs:=[.int .i64 z,.int .i64 pz]) rfl HRD.out HBY.out HBN.out HBS.out ?_;intro g6 c6 w6 hown6 hb6 hag6 hat6 hgr6;rw[HLW.out]at hown6 ⊢;have R6:=(HR7.out.2.alloc (.cells #[.int .i64 z,.int .i64 pz] 70)).grown hgr6 HAPO.out;have RE6:=(HR7.out.1.alloc (.cells #[.int .i64 z,.int .i64 pz] 70)).grown hgr6 HEBO.out;have c6':=R6.cell (j:=0) rfl;have f6:=R6.free 0;have l6:=R6.lt;have RE8:=RE6.grown (grownBy_setCell w6 (FB+1+1) 0 (.slice (some ⟨g6,0,none⟩) (k+1+1) c6)) (fun e=>by injection e with e;omega);have c8:=RE8.cell (j:=0) rfl;have f8:=RE8.free 0;have l8:=RE8.lt;have HFX:=Lib.hid (HFIN.out g6 c6 w6 hown6 hgr6);clear hown6 hb6 hag6 hat6 hgr6 R6 RE6 RE8)
   exact ⟨HFX.out.1,rfl,HFX.out.2.2⟩
  case hdone=>
   rintro D l W hD hS ⟨hno,hA,hBW⟩ hK
   exfalso
   obtain ⟨n1,n2⟩:=nxt_in (y:=y) hxn (by omega)
   exact hno _ (by rw[hS];exact n1) n2
  case hstop=>
   rintro D c pre W hD hSp ⟨rfl,⟨l,z,wv',h1,h2,h3,h4,h5,h6,h7,h8,h9⟩⟩ hK
   rw[h1]at hSp
   have hnz:=nxt_of hxn hSp h2 h3 (by omega)
   have hne:∀b e xs,Row w5 b e xs→∀D,w5.heap[D]? =some (.deferred (some []))→D≠b:=fun b e xs hR D hD e=>by
    unfold Row at hR;rw[e]at hD;rw[hD]at hR;cases hR
   have hneo:∀D,w5.heap[D]? =some (.deferred (some []))→(Value.slice oa (k+1) oc).ownBlock≠some D:=fun D hD e=>by
    obtain ⟨xs,hown,_⟩:=HO5.out
    rcases hown.2 with ⟨h8,_⟩ | ⟨g9,cap9,cur9,h8,_,hg9,_⟩
    ·rw[h8]at e;cases e
    ·rw[h8]at e;cases e;rw[hD]at hg9;cases hg9
   have hoo:∀j,(Value.slice oa (k+1) oc).ownBlock=some j→FB+1≤j:=fun j hj=>(HO5.out.lt j hj).1
   have HMW:=HM5.out.agree h8 (fun D hD=>⟨(Array.getElem?_eq_some_iff.1 hD).1,hne _ _ _ RE5 D hD,hne _ _ _ WC5 D hD,hneo D hD⟩)
   have HMC:=Lib.hid (HM5.out.cons (D:=D) HMW hD (by have:=hx5.size;omega) hK)
   have FC6:=FC5.agree h8 ⟨FC5.lt,by omega,by omega,fun e=>by have:=hoo _ e;omega⟩
   have hA6:Agree (fun b=>b<FB∧b≠w.heap.size+1) w4 W:=hA5.trans (h8.mono fun b hb=>⟨by omega,hb.2,by omega,fun e=>by have:=hoo _ e;omega⟩)
   have HXE2:Hid (z=xsE s y x0 (k+1)):=Lib.hid (by rw[←hnz,HXE.out];rfl)
   have HO8:Hid (OwnK (kFlat 2) 70 (FB+1) (fun _=>False) W wv' (wlkTo s y x0 (k+1))):=Lib.hid (by
    rw[wlkTo_succ,show wlkR s y x0 (k+1)=[(xsE s y x0 (k+1):Int),(lowP s (xsE s y x0 k) (xsE s y x0 (k+1)):Int)] from rfl,←HXE2.out,←HXE.out];exact h6)
   have HMS2:Hid (d+1 - lenC W (.pointer (some ⟨FB+1+1,0,none⟩))<d+1 - lenC wr (.pointer (some ⟨FB+1+1,0,none⟩))):=Lib.hid (by
    obtain ⟨oa2,oc2,hwv2,_⟩:=HO8.out.form
    rw[wlkTo_len]at hwv2
    rw[HMS.out,lenC_eq (h5.cell (j:=0) rfl),hwv2]
    show d+1 - (k+1+1)<_
    omega)
   have HRR:=Lib.hid (And.intro h4 (And.intro FC6 (And.intro h5 (And.intro hA6 h9))))
   clear hne hneo hoo HMW FC6 hA6 h1 h2 h3 h4 h5 h6 h7 h8 h9 hSp hnz hK RE5 FC5 WC5 hA5 hx5
   gi_wp2
   refine ⟨?relz,?measurez⟩
   case relz=>
    (repeat apply Exists.intro)
    refine ⟨?hrz,?hez⟩
    case hez=>repeat' (first | exact rfl | apply And.intro)
    exact ⟨⟨k+1,z,wv',by omega,HXE2.out,HRR.out.2.2.2.2,HRR.out.1,HRR.out.2.1,HRR.out.2.2.1,HO8,HRR.out.2.2.2.1,HMC⟩⟩
   case measurez=>exact HMS2.out
end Go.Proofs.YtaijafjfafbcfaaGreat
