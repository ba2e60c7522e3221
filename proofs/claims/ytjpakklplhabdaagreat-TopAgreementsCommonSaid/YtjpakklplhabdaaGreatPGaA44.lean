/- Part of the proof that the laws answer true for every input. -/
import Derived.Test.YtjpakklplhabdaaGreatPGaA41
set_option linter.unusedSimpArgs false
set_option linter.unnecessarySimpa false
set_option linter.unusedVariables false
set_option maxRecDepth 100000
set_option maxHeartbeats 40000000
namespace Go.Proofs.YtjpakklplhabdaaGreat
open Go.RowKit
attribute [local go_sem ↓] Go.wp_at_zero Go.wp_at_succ
theorem zdT (s:SysF) (q:Nat):zzlabs ((pairsI s.ex.length (s.K+1)).map fun x=>nth (nthL (nthX s.ex x.1).vs x.2) q)=pntL s q:=by
 unfold pntL keys pntN
 congr 1
 exact xN (s.K+1) (fun x=>nth (nthL (nthX s.ex x.1).vs x.2) q) s.ex.length
theorem zaM (s:SysF) (q:Nat):(pntL s q).length=pntN s:=by unfold pntL;rw[length_labs];simp[keys]
theorem ZW {S:Nat→Prop} {w:World} {v:Value} {s:SysF} {q:Nat} (h:SysV S w v s) (hf:PFew s.p) (h0:verE s=0) (hg:GoodS s s.N s.K) (hE:s.ex.length≤60) (hq:q<s.N):
  Calls Tryz.prog 91 #[v,.int .i64 (q:Nat)] w (Post w fun w' r=>∃u,r=.tuple #[u,.int .i64 0]∧Ints (fun b=>w.heap.size≤b) w' u (pntL s q)):=by
 have KV:Hid (∀W,Below w.heap.size w W→Calls Tryz.prog 66 #[v] W (Post W fun _ r=>r=.int .i64 0)):=zhd fun W hW=>by
  have:=yX (h.ext hW) hf
  rw[h0]at this;exact this
 have hrd:=hg.rnd
 have HRD:=zhd hrd
 have hqn:(q:Int)<s.tn:=by rw[hg.tn];omega
 have hq0:((q:Int)<0)=False:=by simp
 have HGS:=zhd hg
 have hK6:=hg.K6
 obtain ⟨vc,vs,vt,vx,rfl,hc,hs,ht,hx⟩:=h
 obtain ⟨ca,cc,rfl,_⟩:=hc.form
 obtain ⟨sa,sc,rfl,_⟩:=hs.form
 obtain ⟨ta,tc,rfl,_⟩:=ht.form
 obtain ⟨xa,xc,rfl,xad,_⟩:=hx.form2
 have HTF:Hid (∀e k,e<s.ex.length→k<s.K+1→WF (nth (nthL (nthX s.ex e).vs k) q)):=zhd fun e k he hk=>by
  obtain ⟨x,h1,h2,_⟩:=HGS.out.view he (show k≤s.K by omega) hq
  have:=ht.few
  rw[h2];unfold WF;omega
 have HXS:=zhd hx
 have ex:Below w.heap.size w ((w.alloc (.cells #[.int .i64 s.p.n,.int .i64 s.p.ins,.int .i64 s.p.outs,.slice ca s.p.cs.length cc,.int .i64 s.p.an,.slice sa s.p.st.length sc,.int .i64 s.p.rounds,.int .i64 s.tn,.slice ta s.tab.length tc,.slice xa s.ex.length xc] 39)).alloc (.cells #[.int .i64 (q:Nat)] 3)):=zg (zb w (.cells #[.int .i64 s.p.n,.int .i64 s.p.ins,.int .i64 s.p.outs,.slice ca s.p.cs.length cc,.int .i64 s.p.an,.slice sa s.p.st.length sc,.int .i64 s.p.rounds,.int .i64 s.tn,.slice ta s.tab.length tc,.slice xa s.ex.length xc] 39)) (.cells #[.int .i64 (q:Nat)] 3)
 have R0:=(ze w [.int .i64 s.p.n,.int .i64 s.p.ins,.int .i64 s.p.outs,.slice ca s.p.cs.length cc,.int .i64 s.p.an,.slice sa s.p.st.length sc,.int .i64 s.p.rounds,.int .i64 s.tn,.slice ta s.tab.length tc,.slice xa s.ex.length xc] 39).alloc (.cells #[.int .i64 (q:Nat)] 3)
 have RB:=ze (w.alloc (.cells #[.int .i64 s.p.n,.int .i64 s.p.ins,.int .i64 s.p.outs,.slice ca s.p.cs.length cc,.int .i64 s.p.an,.slice sa s.p.st.length sc,.int .i64 s.p.rounds,.int .i64 s.tn,.slice ta s.tab.length tc,.slice xa s.ex.length xc] 39)) [.int .i64 (q:Nat)] 3
 rw[World.size_alloc]at RB
 obtain ⟨t0,t1,t2,t3,t4,t5,t6,t7,t8,t9⟩:=R0.ten
 have l0:=R0.lt
 have r1:=RB.zc 0 rfl
 have l1:=RB.lt
 clear hf h0 hg hc hs ht hx xad hrd
 go_enter Tryz.func91,Tryz.ntmps91
 go_wp2_with fail
 refine (KV.out _ ex).mono ?_
 rintro _ w1 ⟨_,rfl,hb,rfl⟩
 replace R0:=R0.ext hb
 replace RB:=RB.ext hb
 replace ex:=za ex hb
 clear hb KV t0 t1 t2 t3 t4 t5 t6 t7 t8 t9 l0 r1 l1
 have KN:=zhd (ZS (w:=w1) (K:=s.K) (ca:=ca) (cc:=cc) (sa:=sa) (sc:=sc) (ta:=ta) (tc:=tc) (xa:=xa) (xc:=xc) (s:=s) (p0:=some ⟨w.heap.size,0,none⟩) (p1:=some ⟨w.heap.size+1,0,none⟩) (fun e k=>nth (nthL (nthX s.ex e).vs k) q) hK6 hE HTF.out fun W hW e k he hk=>by
  obtain ⟨c,hxe⟩:=HGS.out.ex e he
  exact XF (HXS.out.ext (za ex hW)) (R0.ext hW) (RB.ext hW) he (by rw[hxe.len];omega) (by rw[hxe.rows k (by omega)];exact hq))
 rw[zdT,←HRD.out]at KN
 obtain ⟨t0,t1,t2,t3,t4,t5,t6,t7,t8,t9⟩:=R0.ten
 have l0:=R0.lt
 have r1:=RB.zc 0 rfl
 have l1:=RB.lt
 clear HTF HGS HXS hK6
 go_wp2_with fail
 refine KN.out.mono ?_
 rintro _ w2 ⟨u,rfl,hb,hu⟩
 have hes:=ex.size
 have HU:=zhd (hu.mono (S':=fun b=>w.heap.size≤b) fun b hb=>by omega)
 replace ex:=za ex hb
 clear hb hu KN t0 t1 t2 t3 t4 t5 t6 t7 t8 t9 l0 r1 l1 R0 RB
 go_wp2
 go_ret2
 exact .mk ex ⟨_,rfl,HU.out⟩
theorem zce {T e:TypeId} {B OB i:Nat} {wr w5 w6:World} {rv u:Value} {xs:List Value} {vs:List Value} {ll:List (List Int)} {l:List Int} {g cp:Nat} (hOB:OB<B) (hB:B≤wr.heap.size) (hR:Row wr OB T xs) (hO:OwnList e B wr rv vs ll)
  (hb:Below wr.heap.size wr w5) (hu:Ints (fun b=>wr.heap.size≤b) w5 u l)
  (hown:w6.ownsRow B e 1 (.slice (some ⟨g,0,none⟩) (ll.length+1) cp) (ll.length+1) (vs++[u])) (hag:∀S:Nat→Prop,(∀k,rv.ownBlock=some k→¬S k)→Agree S w5 w6) (hbel:Below B w5 w6) (hat:rv.ownBlock=some g∨w5.heap.size≤g):
  Row (w6.setCell ⟨OB,i,none⟩ (.slice (some ⟨g,0,none⟩) (ll.length+1) cp)) OB T (xs.set i (.slice (some ⟨g,0,none⟩) (ll.length+1) cp))∧
  OwnList e B (w6.setCell ⟨OB,i,none⟩ (.slice (some ⟨g,0,none⟩) (ll.length+1) cp)) (.slice (some ⟨g,0,none⟩) (ll.length+1) cp) (vs++[u]) (ll++[l])∧
  Agree (fun b=>b<B∧b≠OB) wr (w6.setCell ⟨OB,i,none⟩ (.slice (some ⟨g,0,none⟩) (ll.length+1) cp))∧
  (∀B',B'≤OB→Below B' wr (w6.setCell ⟨OB,i,none⟩ (.slice (some ⟨g,0,none⟩) (ll.length+1) cp)))∧Row w6 OB T xs:=by
 have hlt:=hO.row.lt
 have hne:rv.ownBlock≠some OB:=fun h=>by have:=(hlt _ h).1;omega
 have hR2:=(hR.ext hb).agree (S:=fun b=>b=OB) (hag _ fun k hk e=>hne (by rw[hk,e])) rfl
 have hset:=zj w6 OB i (.slice (some ⟨g,0,none⟩) (ll.length+1) cp)
 have hO5:=hO.ext hb
 have hpush:OwnList e B w6 (.slice (some ⟨g,0,none⟩) (ll.length+1) cp) (vs++[u]) (ll++[l]):=by
  refine hO5.push hown hag (fun k hk=>?_) (hu.mono fun b hb'=>⟨by omega,fun e=>?_⟩)
  ·simp[Value.ownBlock]at hk
   subst hk
   exact hat
  ·have:=(hlt _ e).2;omega
 refine ⟨hR2.set i (.slice (some ⟨g,0,none⟩) (ll.length+1) cp),hpush.agree (.of_grown hset fun b hb' e=>by cases e;omega),?_,fun B' hB'=>?_,hR2⟩
 ·refine ((Agree.of_ext hb).trans (hag _ fun k hk hk2=>?_)).trans (.of_grown hset fun b hb' e=>by cases e;exact hb'.2 rfl)
  exact absurd hk2.1 (by have:=(hlt _ hk).1;omega)
 ·have h5:=hb.size
  refine ((hb.mono (by have:=hR.lt;omega)).trans (hbel.mono (by omega))).trans ?_
  exact (Below.refl _ _).grown hset (by have:=(hR2).lt;omega) fun k hk=>by cases hk;omega
theorem OwnList.listsT {e:TypeId} {B:Nat} {w:World} {v:Value} {vs:List Value} {ll:List (List Int)} (h:OwnList e B w v vs ll):Lists (fun _=>True) w v ll:=
 Lists.of_own h.row ⟨by have:=h.row.1;omega,fun j hj=>(h.rows j hj).mono fun _ _=>trivial⟩ fun _ _=>trivial
def clsLs (s:SysF) (k:Nat):List (List Int):=(List.range k).map (pntL s)
theorem yD (s:SysF) (k:Nat):(clsLs s k).length=k:=by simp[clsLs]
theorem zbu (s:SysF) (k:Nat):clsLs s (k+1)=clsLs s k++[pntL s k]:=by unfold clsLs;rw[List.range_succ,List.map_append];rfl
theorem zaW {s:SysF} {k q:Nat} (h:q<k):nthL (clsLs s k) q=pntL s q:=by simp[clsLs,nthL,h]
theorem Z2 {S:Nat→Prop} {w:World} {v:Value} {s:SysF} (h:SysV S w v s) (hf:PFew s.p) (h0:verE s=0) (hg:GoodS s s.N s.K) (hE:s.ex.length≤60):
  Calls Tryz.prog 50 #[v] w (Post w fun w' r=>∃g,r=.tuple #[.pointer (some ⟨g,0,none⟩),.int .i64 0]∧WorM w' g (clsLs s s.N) (pntN s)):=by
 have KC:Hid (∀W,Below w.heap.size w W→Calls Tryz.prog 90 #[v] W (Post W fun _ r=>r=.tuple #[.int .i64 (pntN s:Nat),.int .i64 0])):=zhd fun W hW=>Qm (h.ext hW) hf h0 hg hE
 have KL:Hid (∀W,Below w.heap.size w W→∀q,q<s.N→Calls Tryz.prog 91 #[v,.int .i64 (q:Nat)] W (Post W fun w' r=>∃a c,r=.tuple #[.slice a (pntN s) c,.int .i64 0]∧Ints (fun b=>W.heap.size≤b) w' (.slice a (pntN s) c) (pntL s q))):=zhd fun W hW q hq=>(ZW (h.ext hW) hf h0 hg hE hq).mono fun _ _ h=>h.imp fun w' r hr=>by
  obtain ⟨u,rfl,hu⟩:=hr
  obtain ⟨a,c,rfl,_⟩:=hu.form
  rw[zaM]at hu ⊢
  exact ⟨a,c,rfl,hu⟩
 obtain ⟨n,hn⟩:∃n,n=pntN s:=⟨_,rfl⟩
 rw[←hn]at KC KL ⊢
 have htn:=hg.tn
 have hN5:s.N≤5:=hg.pok.n1.2
 obtain ⟨N,hNN⟩:∃N,N=s.N:=⟨_,rfl⟩
 rw[←hNN]at KL htn hN5 ⊢
 have HTN:=zhd htn
 clear htn
 obtain ⟨vc,vs,vt,vx,rfl,hc,hs,ht,hx⟩:=h
 obtain ⟨ca,cc,rfl,_⟩:=hc.form
 obtain ⟨sa,sc,rfl,_⟩:=hs.form
 obtain ⟨ta,tc,rfl,_⟩:=ht.form
 obtain ⟨xa,xc,rfl,xad,_⟩:=hx.form2
 have ex:=zb w (.cells #[.int .i64 s.p.n,.int .i64 s.p.ins,.int .i64 s.p.outs,.slice ca s.p.cs.length cc,.int .i64 s.p.an,.slice sa s.p.st.length sc,.int .i64 s.p.rounds,.int .i64 s.tn,.slice ta s.tab.length tc,.slice xa s.ex.length xc] 39)
 have R0:=ze w [.int .i64 s.p.n,.int .i64 s.p.ins,.int .i64 s.p.outs,.slice ca s.p.cs.length cc,.int .i64 s.p.an,.slice sa s.p.st.length sc,.int .i64 s.p.rounds,.int .i64 s.tn,.slice ta s.tab.length tc,.slice xa s.ex.length xc] 39
 clear hn hf h0 hg hE hc hs ht hx xad hNN
 obtain ⟨t0,t1,t2,t3,t4,t5,t6,t7,t8,t9⟩:=R0.ten
 have l0:=R0.lt
 go_enter Tryz.func50,Tryz.ntmps50
 go_wp2_with fail
 refine (KC.out _ ex).mono ?_
 rintro _ w1 ⟨_,rfl,hb,rfl⟩
 replace R0:=R0.ext hb
 replace ex:=za ex hb
 clear hb KC t0 t1 t2 t3 t4 t5 t6 t7 t8 t9 l0
 have hmm:=@run_makeMap Tryz.prog
 have e2:=zg (zb w1 (.map #[] 0)) (.cells #[.int .i64 s.p.n,.int .i64 s.p.ins,.int .i64 s.p.outs,.slice ca s.p.cs.length cc,.int .i64 s.p.an,.slice sa s.p.st.length sc,.int .i64 s.p.rounds,.int .i64 s.tn,.slice ta s.tab.length tc,.slice xa s.ex.length xc,.int .i64 (n:Nat),.slice none 0 0,.map (some w1.heap.size)] 117)
 have RW:=ze (w1.alloc (.map #[] 0)) [.int .i64 s.p.n,.int .i64 s.p.ins,.int .i64 s.p.outs,.slice ca s.p.cs.length cc,.int .i64 s.p.an,.slice sa s.p.st.length sc,.int .i64 s.p.rounds,.int .i64 s.tn,.slice ta s.tab.length tc,.slice xa s.ex.length xc,.int .i64 (n:Nat),.slice none 0 0,.map (some w1.heap.size)] 117
 rw[World.size_alloc]at RW
 have R02:=R0.ext e2
 have ex2:=za ex e2
 obtain ⟨t0,t1,t2,t3,t4,t5,t6,t7,t8,t9⟩:=R0.ten
 have l0:=R0.lt
 go_upto_region 5 with fail
 obtain ⟨w2,hw2⟩:∃w2,w2=(w1.alloc (.map #[] 0)).alloc (.cells #[.int .i64 s.p.n,.int .i64 s.p.ins,.int .i64 s.p.outs,.slice ca s.p.cs.length cc,.int .i64 s.p.an,.slice sa s.p.st.length sc,.int .i64 s.p.rounds,.int .i64 s.tn,.slice ta s.tab.length tc,.slice xa s.ex.length xc,.int .i64 (n:Nat),.slice none 0 0,.map (some w1.heap.size)] 117):=⟨_,rfl⟩
 have hz2:w2.heap.size=w1.heap.size+2:=by rw[hw2];simp
 rw[←hw2]at RW R02 ex2 ⊢
 obtain ⟨WB,hWB⟩:∃b,b=w1.heap.size+1:=⟨_,rfl⟩
 obtain ⟨MB,hMB⟩:∃b,b=w1.heap.size:=⟨_,rfl⟩
 rw[←hWB]at RW ⊢
 rw[←hMB]at RW
 have l00:=R0.lt
 have hB0:w.heap.size<WB:=by omega
 have hWB2:WB<w2.heap.size:=by omega
 clear hw2 hmm t0 t1 t2 t3 t4 t5 t6 t7 t8 t9 l0 R0 ex e2 hWB hMB hz2 l00
 obtain ⟨B2,hB2⟩:∃b,b=w2.heap.size:=⟨_,rfl⟩
 rw[←hB2]at hWB2
 have HO:Hid (OwnList 30 B2 w2 (.slice none 0 0) [] (clsLs s 0)):=zhd (OwnList.nil _ _ _)
 have hB2w:B2≤w2.heap.size:=by omega
 clear hB2
 rw[HTN.out]at R02
 have R0:=R02
 obtain ⟨t0,t1,t2,t3,t4,t5,t6,t7,t8,t9⟩:=R0.ten
 have l0:=R0.lt
 go_wp2
 clear t0 t1 t2 t3 t4 t5 t6 t7 t8 t9 l0
 go_loopw [7,8,9,26] (fun _ _ _ i wr=>∃(k:Nat) (rv:Value) (vs:List Value),k≤N∧i=.int .i64 k∧Below w.heap.size w wr∧B2≤wr.heap.size∧Row wr w.heap.size 39 [.int .i64 s.p.n,.int .i64 s.p.ins,.int .i64 s.p.outs,.slice ca s.p.cs.length cc,.int .i64 s.p.an,.slice sa s.p.st.length sc,.int .i64 s.p.rounds,.int .i64 (N:Nat),.slice ta s.tab.length tc,.slice xa s.ex.length xc]∧Row wr WB 117 [.int .i64 s.p.n,.int .i64 s.p.ins,.int .i64 s.p.outs,.slice ca s.p.cs.length cc,.int .i64 s.p.an,.slice sa s.p.st.length sc,.int .i64 s.p.rounds,.int .i64 s.tn,.slice ta s.tab.length tc,.slice xa s.ex.length xc,.int .i64 (n:Nat),rv,.map (some MB)]∧Hid (OwnList 30 B2 wr rv vs (clsLs s k))) (fun _ _ _ i _=>N - (intOf i).toNat)
 case atStart=>exact ⟨0,_,_,Nat.zero_le _,rfl,ex2,hB2w,R0,RW,HO⟩
 case round=>
  clear ex2 R0 R02 RW HO hB2w
  obtain ⟨k,rv,vs,hk,rfl,ex,hB2w,R0,RW,HO⟩:=hrel
  by_cases hlt:k<N
  case neg=>
   obtain rfl:k=N:=by omega
   have hL:=HO.out.listsT
   obtain ⟨la,lc,rfl,_⟩:=hL.form
   have HL:Hid (WorM wr WB (clsLs s k) n):=zhd ⟨_,_,_,_,_,_,_,_,_,_,_,_,_,RW,hL⟩
   clear hL HO R0 RW
   go_wp2
   go_ret2
   exact .mk ex ⟨_,rfl,HL.out⟩
  have KLk:=zhd (KL.out _ ex k hlt)
  rw[HTN.out]at KLk
  obtain ⟨t0,t1,t2,t3,t4,t5,t6,t7,t8,t9⟩:=R0.ten
  have l0:=R0.lt
  go_wp2_with fail
  refine KLk.out.mono ?_
  rintro _ w5 ⟨_,rfl,hb,ua,uc,rfl,hu⟩
  have hb5:=hb.size
  have RW5:=RW.ext hb
  have HU:=zhd hu
  have HBB:=zhd hb
  have HOR:Hid (w5.ownsRow B2 30 1 rv (clsLs s k).length vs):=zhd (HO.out.ext hb).row
  rw[yD]at HOR
  have z11:=RW5.zc 11 rfl
  have zf:=RW5.free 11
  have zl:=RW5.lt
  clear KLk t0 t1 t2 t3 t4 t5 t6 t7 t8 t9 l0 hu hb
  have HPX:=zhd fun w6 g6 cp6 h1 h2 h3 h4=>zce (i:=11) (OB:=WB) (B:=B2) (wr:=wr) (w5:=w5) (w6:=w6) (u:=.slice ua n uc) (l:=pntL s k) (g:=g6) (cp:=cp6) hWB2 hB2w RW HO.out HBB.out HU.out h1 h2 h3 h4
  rw[yD]at HPX
  go_wp2_with (at_builtin;refine yc rfl _ _ 47 rfl 30 _ 24 Tryz.underlying47 zF rfl B2 _ _ _ rfl HOR.out (.slice ua n uc) rfl rfl (by omega) (by omega) (by omega) ?_;intro g6 cp6 w6 hown6 hbel6 hag6 hat6;have R6:=(HPX.out w6 g6 cp6 hown6 hag6 hbel6 hat6).2.2.2.2;have c6:=R6.zc 11 rfl;have f6:=R6.free 11;have l6:=R6.lt)
  obtain ⟨P1,P2,P3,P4,_⟩:=HPX.out w6 g6 cp6 hown6 hag6 hbel6 hat6
  have P4':=P4 w.heap.size (by omega)
  have PR0:=R0.agree P3 ⟨by omega,by omega⟩
  have P2':Hid (OwnList 30 B2 (w6.setCell ⟨WB,11,none⟩ (.slice (some ⟨g6,0,none⟩) (k+1) cp6)) (.slice (some ⟨g6,0,none⟩) (k+1) cp6) (vs++[.slice ua n uc]) (clsLs s (k+1))):=zhd (by rw[zbu];exact P2)
  have PEX:=ex.trans P4'
  have PS:=P3.size
  clear P2 P3 P4 P4' HPX HOR HBB HU HO z11 zf zl RW RW5 R0 c6 f6 l6 R6 hown6 hbel6 hag6 hat6
  go_roundw
  case rel=>exact ⟨k+1,_,_,by omega,by go_num,PEX,by omega,PR0,P1,P2'⟩
  case measure=>simp[intOf];omega
theorem Q7 {S S2:Nat→Prop} {w:World} {v vb:Value} {s:SysF} {b:List Bool} {G:Nat} (h:SysV S w v s) (hf:PFew s.p) (h0:verE s=0) (hg:GoodS s s.N s.K) (hE:s.ex.length≤60) (h2:Sl kBool S2 w vb b) (hl:b.length=pntN s) (hN:s.N=1∨s.N=2∨s.N=3) (hG:G<2 ^ s.N):
  Calls Tryz.prog 26 #[v,.int .i64 (G:Nat),vb] w (Post w fun w' r=>∃g,r=.tuple #[.pointer (some ⟨g,0,none⟩),.int .i64 0]∧WorM w' g (clsLs s s.N) (pntN s)):=by
 have KW:Hid (∀W,Below w.heap.size w W→Calls Tryz.prog 50 #[v] W (Post W fun w' r=>∃g,r=.tuple #[.pointer (some ⟨g,0,none⟩),.int .i64 0]∧WorM w' g (clsLs s s.N) (pntN s))):=zhd fun W hW=>Z2 (h.ext hW) hf h0 hg hE
 obtain ⟨CL,hCL⟩:∃c,c=clsLs s s.N:=⟨_,rfl⟩
 rw[←hCL]at KW ⊢
 obtain ⟨ba,bc,rfl,_⟩:=h2.form
 rw[hl]
 obtain ⟨n,hn⟩:∃n,n=pntN s:=⟨_,rfl⟩
 rw[←hn]at KW ⊢
 have htn:=hg.tn
 obtain ⟨N,hNN⟩:∃N,N=s.N:=⟨_,rfl⟩
 rw[←hNN]at htn hN hG
 obtain ⟨vc,vs,vt,vx,rfl,hc,hs,ht,hx⟩:=h
 obtain ⟨ca,cc,rfl,_⟩:=hc.form
 obtain ⟨sa,sc,rfl,_⟩:=hs.form
 obtain ⟨ta,tc,rfl,_⟩:=ht.form
 obtain ⟨xa,xc,rfl,xad,_⟩:=hx.form2
 rw[htn]at KW ⊢
 have dn:((n:Int) !=(n:Int))=false:=by simp
 have d1:((0:Int) !=0)=false:=rfl
 have dg0:¬((G:Int)<0):=by omega
 have TAIL:True:=trivial
 clear hn hf h0 hg hE hc hs ht hx xad hNN hCL hl h2 htn TAIL
 rcases hN with rfl | rfl | rfl
 ·have hG2:((G:Int)<2):=by simp at hG;omega
  have hG3:¬((2:Int)≤(G:Int)):=by omega
  have ex:=zb w (.cells #[.int .i64 s.p.n,.int .i64 s.p.ins,.int .i64 s.p.outs,.slice ca s.p.cs.length cc,.int .i64 s.p.an,.slice sa s.p.st.length sc,.int .i64 s.p.rounds,.int .i64 1,.slice ta s.tab.length tc,.slice xa s.ex.length xc] 39)
  have R0:=ze w [.int .i64 s.p.n,.int .i64 s.p.ins,.int .i64 s.p.outs,.slice ca s.p.cs.length cc,.int .i64 s.p.an,.slice sa s.p.st.length sc,.int .i64 s.p.rounds,.int .i64 1,.slice ta s.tab.length tc,.slice xa s.ex.length xc] 39
  obtain ⟨t0,t1,t2,t3,t4,t5,t6,t7,t8,t9⟩:=R0.ten
  have l0:=R0.lt
  go_enter Tryz.func26,Tryz.ntmps26
  go_wp2_with fail
  refine (KW.out _ ex).mono ?_
  rintro _ w1 ⟨_,rfl,hb,g,rfl,hW⟩
  have HW:=zhd hW
  obtain ⟨x0,x1,x2,x3,x4,x5,x6,x7,x8,x9,mv,la,lc,RW,_⟩:=hW
  replace R0:=R0.ext hb
  replace ex:=za ex hb
  have g10:=RW.zc 10 rfl
  have gl:=RW.lt
  clear hb KW t0 t1 t2 t3 t4 t5 t6 t7 t8 t9 l0 RW
  obtain ⟨t0,t1,t2,t3,t4,t5,t6,t7,t8,t9⟩:=R0.ten
  have l0:=R0.lt
  go_wp2
  go_ret2
  exact .mk ex ⟨_,rfl,HW.out⟩
 ·have hG2:((G:Int)<4):=by simp at hG;omega
  have hG3:¬((4:Int)≤(G:Int)):=by omega
  have ex:=zb w (.cells #[.int .i64 s.p.n,.int .i64 s.p.ins,.int .i64 s.p.outs,.slice ca s.p.cs.length cc,.int .i64 s.p.an,.slice sa s.p.st.length sc,.int .i64 s.p.rounds,.int .i64 2,.slice ta s.tab.length tc,.slice xa s.ex.length xc] 39)
  have R0:=ze w [.int .i64 s.p.n,.int .i64 s.p.ins,.int .i64 s.p.outs,.slice ca s.p.cs.length cc,.int .i64 s.p.an,.slice sa s.p.st.length sc,.int .i64 s.p.rounds,.int .i64 2,.slice ta s.tab.length tc,.slice xa s.ex.length xc] 39
  obtain ⟨t0,t1,t2,t3,t4,t5,t6,t7,t8,t9⟩:=R0.ten
  have l0:=R0.lt
  go_enter Tryz.func26,Tryz.ntmps26
  go_wp2_with fail
  refine (KW.out _ ex).mono ?_
  rintro _ w1 ⟨_,rfl,hb,g,rfl,hW⟩
  have HW:=zhd hW
  obtain ⟨x0,x1,x2,x3,x4,x5,x6,x7,x8,x9,mv,la,lc,RW,_⟩:=hW
  replace R0:=R0.ext hb
  replace ex:=za ex hb
  have g10:=RW.zc 10 rfl
  have gl:=RW.lt
  clear hb KW t0 t1 t2 t3 t4 t5 t6 t7 t8 t9 l0 RW
  obtain ⟨t0,t1,t2,t3,t4,t5,t6,t7,t8,t9⟩:=R0.ten
  have l0:=R0.lt
  go_wp2
  go_ret2
  exact .mk ex ⟨_,rfl,HW.out⟩
 ·have hG2:((G:Int)<8):=by simp at hG;omega
  have hG3:¬((8:Int)≤(G:Int)):=by omega
  have ex:=zb w (.cells #[.int .i64 s.p.n,.int .i64 s.p.ins,.int .i64 s.p.outs,.slice ca s.p.cs.length cc,.int .i64 s.p.an,.slice sa s.p.st.length sc,.int .i64 s.p.rounds,.int .i64 3,.slice ta s.tab.length tc,.slice xa s.ex.length xc] 39)
  have R0:=ze w [.int .i64 s.p.n,.int .i64 s.p.ins,.int .i64 s.p.outs,.slice ca s.p.cs.length cc,.int .i64 s.p.an,.slice sa s.p.st.length sc,.int .i64 s.p.rounds,.int .i64 3,.slice ta s.tab.length tc,.slice xa s.ex.length xc] 39
  obtain ⟨t0,t1,t2,t3,t4,t5,t6,t7,t8,t9⟩:=R0.ten
  have l0:=R0.lt
  go_enter Tryz.func26,Tryz.ntmps26
  go_wp2_with fail
  refine (KW.out _ ex).mono ?_
  rintro _ w1 ⟨_,rfl,hb,g,rfl,hW⟩
  have HW:=zhd hW
  obtain ⟨x0,x1,x2,x3,x4,x5,x6,x7,x8,x9,mv,la,lc,RW,_⟩:=hW
  replace R0:=R0.ext hb
  replace ex:=za ex hb
  have g10:=RW.zc 10 rfl
  have gl:=RW.lt
  clear hb KW t0 t1 t2 t3 t4 t5 t6 t7 t8 t9 l0 RW
  obtain ⟨t0,t1,t2,t3,t4,t5,t6,t7,t8,t9⟩:=R0.ten
  have l0:=R0.lt
  go_wp2
  go_ret2
  exact .mk ex ⟨_,rfl,HW.out⟩
theorem Yy {S S2:Nat→Prop} {w:World} {v vb:Value} {s:SysF} {b:List Bool} (h:SysV S w v s) (hf:PFew s.p) (h0:verE s=0) (hg:GoodS s s.N s.K) (hE:s.ex.length≤60) (h2:Sl kBool S2 w vb b) (hl:b.length=pntN s) (hN:s.N=1∨s.N=2∨s.N=3)
  (hc:∀q i j,q<s.N→i<b.length→j<b.length→nth (pntL s q) i=nth (pntL s q) j→nthB b i=true→nthB b j=true):
  Calls Tryz.prog 13 #[v,.int .i64 ((2 ^ s.N - 1:Nat):Int),vb] w (Post w fun w' r=>∃(u:Value) (m:Int),r=.tuple #[u,.int .i64 m,.int .i64 0]∧Sl kBool (fun x=>w.heap.size≤x) w' u b):=by
 have hp:0<2 ^ s.N:=Nat.pow_pos (by decide)
 have hGs:2 ^ s.N - 1<64:=by rcases hN with h | h | h<;>rw[h]<;>decide
 have hGb:∀k,k<(clsLs s s.N).length→(2 ^ s.N - 1).testBit k=true:=fun k hk=>by
  rw[yD]at hk
  rw[Nat.testBit_two_pow_sub_one];simp[hk]
 have hmul:pntN s≤60 * 7:=Nat.mul_le_mul hE (by have:=hg.K6;omega)
 have KO:Hid (∀W,Below w.heap.size w W→Calls Tryz.prog 26 #[v,.int .i64 ((2 ^ s.N - 1:Nat):Int),vb] W (Post W fun w' r=>∃g,r=.tuple #[.pointer (some ⟨g,0,none⟩),.int .i64 0]∧WorM w' g (clsLs s s.N) (pntN s))):=zhd fun W hW=>Q7 (h.ext hW) hf h0 hg hE (h2.ext hW) hl hN (by omega)
 have KC:Hid (∀W g,Below w.heap.size w W→WorM W g (clsLs s s.N) (pntN s)→Calls Tryz.prog 27 #[.pointer (some ⟨g,0,none⟩),.int .i64 ((2 ^ s.N - 1:Nat):Int),vb] W (Post W fun w' r=>∃(u:Value) (m:Int),r=.tuple #[u,.int .i64 m]∧Sl kBool (fun x=>W.heap.size≤x) w' u b)):=zhd fun W g hW hM=>Xy hM (h2.ext hW) hl (fun k hk=>by rw[yD]at hk;rw[zaW hk,zaM]) hGb (by omega) (by rw[yD];exact hg.pok.n1.2) hGs (by rw[yD];exact hg.pok.n1.1) (fun q i j hq hi hj he=>by
  rw[yD]at hq
  rw[zaW hq]at he
  exact hc q i j hq hi hj he)
 obtain ⟨G,hG⟩:∃G,G=2 ^ s.N - 1:=⟨_,rfl⟩
 rw[←hG]at KO KC ⊢
 obtain ⟨ba,bc,rfl,_⟩:=h2.form
 obtain ⟨bl,hbl⟩:∃bl,bl=b.length:=⟨_,rfl⟩
 rw[←hbl]at KO KC ⊢
 obtain ⟨n,hn⟩:∃n,n=pntN s:=⟨_,rfl⟩
 rw[←hn]at KO KC
 obtain ⟨CL,hCL⟩:∃c,c=clsLs s s.N:=⟨_,rfl⟩
 rw[←hCL]at KO KC
 obtain ⟨vc,vs,vt,vx,rfl,hcs,hs,ht,hx⟩:=h
 obtain ⟨ca,cc,rfl,_⟩:=hcs.form
 obtain ⟨sa,sc,rfl,_⟩:=hs.form
 obtain ⟨ta,tc,rfl,_⟩:=ht.form
 obtain ⟨xa,xc,rfl,xad,_⟩:=hx.form2
 have ex:=zb w (.cells #[.int .i64 s.p.n,.int .i64 s.p.ins,.int .i64 s.p.outs,.slice ca s.p.cs.length cc,.int .i64 s.p.an,.slice sa s.p.st.length sc,.int .i64 s.p.rounds,.int .i64 s.tn,.slice ta s.tab.length tc,.slice xa s.ex.length xc] 39)
 have R0:=ze w [.int .i64 s.p.n,.int .i64 s.p.ins,.int .i64 s.p.outs,.slice ca s.p.cs.length cc,.int .i64 s.p.an,.slice sa s.p.st.length sc,.int .i64 s.p.rounds,.int .i64 s.tn,.slice ta s.tab.length tc,.slice xa s.ex.length xc] 39
 clear hp hGs hGb hmul hc hf h0 hg hE h2 hl hN hG hbl hn hCL hcs hs ht hx xad
 obtain ⟨t0,t1,t2,t3,t4,t5,t6,t7,t8,t9⟩:=R0.ten
 have l0:=R0.lt
 go_enter Tryz.func13,Tryz.ntmps13
 go_wp2_with fail
 refine (KO.out _ ex).mono ?_
 rintro _ w1 ⟨_,rfl,hb,g,rfl,hW⟩
 have HW:=zhd hW
 replace ex:=za ex hb
 clear hb KO t0 t1 t2 t3 t4 t5 t6 t7 t8 t9 l0 R0 hW
 have KCk:=zhd (KC.out _ _ ex HW.out)
 have hes:=ex.size
 have d0:((0:Int) !=0)=false:=rfl
 go_wp2_with fail
 refine KCk.out.mono ?_
 rintro _ w2 ⟨_,rfl,hb,u,m,rfl,hu⟩
 have HU:=zhd (hu.mono (S':=fun x=>w.heap.size≤x) fun x hx=>by omega)
 replace ex:=za ex hb
 clear hb hu KC KCk HW
 go_wp2
 go_ret3
 exact .mk ex ⟨_,_,rfl,HU.out⟩
end Go.Proofs.YtjpakklplhabdaaGreat
