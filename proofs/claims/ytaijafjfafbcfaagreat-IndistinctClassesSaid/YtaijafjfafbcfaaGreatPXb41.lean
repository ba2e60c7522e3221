/- Part of the proof that the laws answer true for every input. -/
import Derived.Test.YtaijafjfafbcfaaGreatPXb40
import Derived.Test.YtaijafjfafbcfaaGreatPXb36
import Derived.Test.YtaijafjfafbcfaaGreatPXb34
import Derived.Test.YtaijafjfafbcfaaGreatPXb25
import Derived.Test.YtaijafjfafbcfaaGreatPXb11
set_option linter.unusedSimpArgs false
set_option linter.unnecessarySimpa false
set_option linter.unusedVariables false
set_option maxRecDepth 100000
set_option maxHeartbeats 40000000
namespace Go.Proofs.YtaijafjfafbcfaaGreat
open Go.RowKit
attribute [local go_sem ↓] Go.wp_at_zero Go.wp_at_succ
structure ClsM (s:SysF) (q k:Nat) (m:Int→Option Value):Prop where
 hit:∀e,e<k→0≤fvw s e q→m (fvw s e q)=some (.int .i64 (lab (keys (keyN s q) k) (keyN s q e):Int))
 miss:∀x,0≤x→(∀e,e<k→fvw s e q≠x)→m x=none
 neg:∀x,x<0→m x=none∨∃z:Int,m x=some (.int .i64 z)
theorem ClsM.start (s:SysF) (q:Nat):ClsM s q 0 fun _=>none:=⟨fun e he=>absurd he (by omega),fun _ _ _=>rfl,fun _ _=>.inl rfl⟩
theorem ClsM.old {s:SysF} {q k e:Nat} {m:Int→Option Value} (h:ClsM s q k m) (he:e<k) (hl:lkB s q k e=true):ClsM s q (k+1) m:=by
 obtain ⟨h0,h1⟩:=lkB_iff.1 hl
 refine ⟨fun e' he' h2=>?_,fun x hx hn=>h.miss x hx fun e' he'=>hn e' (by omega),h.neg⟩
 by_cases e1:e'=k
 ·subst e1
  rw[(cls_old he hl).1,h1]
  exact h.hit e he (by omega)
 ·rw[lab_keep (by omega)]
  exact h.hit e' (by omega) h2
theorem ClsM.new {s:SysF} {q k:Nat} {m:Int→Option Value} (h:ClsM s q k m) (hn:∀f,f<k→lkB s q k f=false):
  ClsM s q (k+1) fun z=>if z=fvw s k q then some (.int .i64 ((firsts (keys (keyN s q) k)).length:Int)) else m z:=by
 refine ⟨fun e' he' h2=>?_,fun x hx hne=>?_,fun x hx=>?_⟩
 ·by_cases e1:e'=k
  ·subst e1
   rw[(cls_new hn).1]
   simp
  ·have hne:fvw s e' q≠fvw s k q:=fun e2=>by
    have:=hn e' (by omega)
    rw[lkB_iff.2 ⟨by omega,e2.symm⟩]at this;cases this
   rw[lab_keep (by omega)]
   simp only[if_neg hne]
   exact h.hit e' (by omega) h2
 ·show (if x=fvw s k q then _ else m x)=none
  rw[if_neg (fun e:x=fvw s k q=>hne k (by omega) e.symm)]
  exact h.miss x hx fun e he=>hne e (by omega)
 ·by_cases e1:x=fvw s k q
  ·exact .inr ⟨((firsts (keys (keyN s q) k)).length:Int),by show (if x=fvw s k q then _ else m x)=_;rw[if_pos e1]⟩
  ·show (if x=fvw s k q then _ else m x)=none∨∃z:Int,(if x=fvw s k q then _ else m x)=_
   rw[if_neg e1];exact h.neg x hx
theorem ClsM.cases {s:SysF} {q k:Nat} {m:Int→Option Value} (h:ClsM s q k m):
  (0≤fvw s k q∧∃e,e<k∧lkB s q k e=true∧m (fvw s k q)=some (.int .i64 (lab (keys (keyN s q) (k+1)) (keyN s q k):Int))∧firsts (keys (keyN s q) (k+1))=firsts (keys (keyN s q) k))∨
  ((∀f,f<k→lkB s q k f=false)∧(m (fvw s k q)=none∨(fvw s k q<0∧∃z:Int,m (fvw s k q)=some (.int .i64 z)))):=by
 by_cases h0:0≤fvw s k q
 ·by_cases h1:∃e,e<k∧fvw s e q=fvw s k q
  ·obtain ⟨e,he,h2⟩:=h1
   have hl:lkB s q k e=true:=lkB_iff.2 ⟨h0,h2.symm⟩
   refine .inl ⟨h0,e,he,hl,?_,(cls_old he hl).2⟩
   rw[(cls_old he hl).1,←h2]
   exact h.hit e he (by omega)
  ·refine .inr ⟨fun f hf=>?_,.inl (h.miss _ h0 fun e he h2=>h1 ⟨e,he,h2⟩)⟩
   cases hl:lkB s q k f with
   | false=>rfl
   | true=>exact absurd ⟨f,hf,(lkB_iff.1 hl).2.symm⟩ h1
 ·refine .inr ⟨fun f hf=>?_,?_⟩
  ·cases hl:lkB s q k f with
   | false=>rfl
   | true=>exact absurd (lkB_iff.1 hl).1 h0
  ·rcases h.neg (fvw s k q) (by omega) with h1 | h1
   ·exact .inl h1
   ·exact .inr ⟨by omega,h1⟩
theorem classes_calls {B:Nat} {w:World} {g:Nat} {la:Option Addr} {lc:Nat} {s:SysF} {q:Nat} (h:FinP B w g la lc s) (hl:s.ex.length≤4096) (hq:q<s.N) (hw:∀e,e<s.ex.length→WF (fvw s e q)):
  Calls Tryz.prog 38 #[.pointer (some ⟨g,0,none⟩),.int .i64 q] w (Post w fun w' r=>Ints (fun b=>w.heap.size≤b) w' r (clsL s q)):=by
 have HF:=Lib.hid h
 have HW:=Lib.hid hw
 have x1:=h.x1
 have lg:=h.row.lt
 have hmm:=@run_makeMap Tryz.prog
 have hM0:=Lib.hid (MapV.made keyInt w)
 have hb0:=ext_alloc w (.map #[] 0)
 have HLW:Hid (∀x∈clsL s q,WF x):=Lib.hid (labs_wf (by simp[keys];omega))
 clear h hw
 go_enter Tryz.func38,Tryz.ntmps38
 go_wp2
 clear x1 lg hmm
 go_loopw [6,7,9,10,11,12,19] (fun ov nv _ _ _ _ i wr=>∃(k:Nat) (oa:Option Addr) (oc:Nat) (m:Int→Option Value) (n:Nat),k≤s.ex.length∧i=.int .i64 k∧ov=.slice oa k oc∧nv=.int .i64 ((firsts (keys (keyN s q) k)).length:Int)∧Below w.heap.size w wr∧Hid (MapV keyInt wr w.heap.size m n)∧n≤k∧Hid (ClsM s q k m)∧Hid (wr.ownsRow (w.heap.size+1) 3 1 (.slice oa k oc) k ((labs (keys (keyN s q) k)).map (Value.int .i64)))) (fun _ _ _ _ _ _ i _=>s.ex.length - (intOf i).toNat)
 case atStart=>exact ⟨0,none,0,_,0,Nat.zero_le _,rfl,rfl,rfl,hb0,hM0,Nat.le_refl _,Lib.hid (ClsM.start s q),Lib.hid (World.ownsRow_nil _ _ _ _)⟩
 case round=>
  clear hb0 hM0
  obtain ⟨k,oa,oc,m,n,hk,rfl,rfl,rfl,hb,HM,hnk,HI,HO⟩:=hrel
  by_cases hlt:k<s.ex.length
  case neg=>
   obtain rfl:k=s.ex.length:=by omega
   have HR:=Lib.hid ((Ints.of_own HO.out HLW.out).mono (S':=fun b=>w.heap.size≤b) fun b hb=>by omega)
   have hR:Ints (fun b=>w.heap.size≤b) wr (.slice oa s.ex.length oc) (clsL s q):=HR.out
   have HR:=Lib.hid hR
   clear hR
   go_wp2
   go_ret
   exact .mk hb HR.out
  obtain ⟨q1,ea,ec,ce,ie⟩:=(HF.out.ext hb).t.at hlt
  have q2:=ie.idx (k:=q) (by rw[fvL_len];exact hq)
  have c2:=ie.cellN (k:=q) (by rw[fvL_len];exact hq)
  rw[fvL_at s k hq]at c2
  have b1:=World.block_lt_of_cell? _ _ ce
  have b2:=World.block_lt_of_cell? _ _ c2
  have HWX:=Lib.hid (HW.out k hlt)
  have HC:=Lib.hid HI.out.cases
  have HST:=Lib.hid (cls_step s q k)
  have hfl:=length_firsts_le (keys (keyN s q) k)
  rw[show (keys (keyN s q) k).length=k by simp[keys]]at hfl
  obtain ⟨fk,hfk⟩:∃fk,fk=(firsts (keys (keyN s q) k)).length:=⟨_,rfl⟩
  obtain ⟨x,hx0⟩:∃x,x=fvw s k q:=⟨_,rfl⟩
  rw[←hx0]at c2 HWX HC
  rw[←hfk]at hfl ⊢
  have hsz:=hb.size
  have hml:=HM.out.lt
  rcases HC.out with ⟨h0,e,he,hlk,hhit,hff⟩ | ⟨hn,hmiss⟩
  ·have d0:decide (x<0)=false:=decide_eq_false (by omega)
   have HHIT:=Lib.hid hhit
   have HFF:Hid ((firsts (keys (keyN s q) (k+1))).length=fk):=Lib.hid (by rw[hff,hfk])
   have HI5:=Lib.hid (HI.out.old he hlk)
   obtain ⟨lb,hlb⟩:∃lb,lb=lab (keys (keyN s q) (k+1)) (keyN s q k):=⟨_,rfl⟩
   rw[←hlb]at HHIT HST
   clear HC h0 he hlk hhit hff hfk hx0 ie hlb
   go_wp2_with (first
    | (at_lookup;refine wpList_hit rfl _ _ 107 rfl 3 Tryz.underlying107 (.int .i64 0) (zero_int _) rfl HM.out x rfl HWX.out _ HHIT.out ?_)
    | (at_builtin;refine wpList_push rfl (.tmp 45) (.tmp 47) 44 rfl 3 _ 8 Tryz.underlying44 info_int rfl (w.heap.size+1) _ _ _ rfl HO.out (.int .i64 lb) rfl rfl (by omega) (by omega) (by omega) ?_;intro g' c' w5 hown5 hbel5 hag5 hat5))
   have HO5:Hid (w5.ownsRow (w.heap.size+1) 3 1 (.slice (some ⟨g',0,none⟩) (k+1) c') (k+1) ((labs (keys (keyN s q) (k+1))).map (Value.int .i64))):=Lib.hid (by rw[HST.out];simpa using hown5)
   have hb5:=hb.trans (hbel5.mono (Nat.le_succ _))
   have HM5:=Lib.hid (HM.out.agree (S:=fun b=>b=w.heap.size) (.of_below hbel5 fun b hb _=>by omega) rfl)
   clear hown5 hbel5 hag5 hat5
   go_wp2
   go_roundw
   case rel=>exact ⟨k+1,_,_,m,n,by omega,by go_num,rfl,int_eq (by rw[HFF.out]),hb5,HM5,by omega,HI5,HO5⟩
   case measure=>simp[intOf];omega
  ·have HNW:=Lib.hid (cls_new hn)
   rw[←hfk]at HNW
   rcases hmiss with hmiss | ⟨h0,z,hhit⟩
   ·have HMISS:=Lib.hid hmiss
    clear HC hmiss ie
    replace hn:=Lib.hid hn
    replace hx0:=Lib.hid hx0
    replace hfk:=Lib.hid hfk
    go_wp2_with (first
     | (at_lookup;refine wpList_miss rfl _ _ 107 rfl 3 Tryz.underlying107 (.int .i64 0) (zero_int _) rfl HM.out x rfl HWX.out HMISS.out ?_)
     | (at_mapUpdate;refine wpList_upd rfl _ _ _ 107 rfl 3 Tryz.underlying107 rfl HM.out (by unfold maxLen;omega) x rfl HWX.out (.int .i64 (fk:Int)) rfl ?_;intro w2 hM2 hg2;have HO2:=Lib.hid (owns_agree (S:=fun b=>b≠w.heap.size) HO.out (.of_grown hg2 (fun b hb e=>by cases e;exact hb rfl)) (fun j hj=>by have:=(HO.out.lt j hj).1;show j≠_;omega));have hs2:=hg2.size)
     | (at_builtin;refine wpList_push rfl (.tmp 45) (.tmp 47) 44 rfl 3 _ 8 Tryz.underlying44 info_int rfl (w.heap.size+1) _ _ _ rfl HO2.out (.int .i64 (fk:Int)) rfl rfl (by omega) (by omega) (by omega) ?_;intro g' c' w5 hown5 hbel5 hag5 hat5))
    have hn:=hn.out
    have hx0:=hx0.out
    have hfk:=hfk.out
    have HO5:Hid (w5.ownsRow (w.heap.size+1) 3 1 (.slice (some ⟨g',0,none⟩) (k+1) c') (k+1) ((labs (keys (keyN s q) (k+1))).map (Value.int .i64))):=Lib.hid (by rw[HST.out,HNW.out.1];simpa using hown5)
    have hb2:=hb.grown hg2 hb.size (fun j hj=>by cases hj;exact Nat.le_refl _)
    have hb5:=hb2.trans (hbel5.mono (Nat.le_succ _))
    have HM5:=Lib.hid (hM2.agree (S:=fun b=>b=w.heap.size) (.of_below hbel5 fun b hb _=>by omega) rfl)
    have HI5:=Lib.hid (HI.out.new hn)
    rw[←hx0,←hfk]at HI5
    have HNF:=Lib.hid HNW.out.2
    have hn5:(if (m x).isSome then n else n+1)≤k+1:=by split<;>omega
    clear hown5 hbel5 hag5 hat5 hM2 hg2 HO2 hb2 hs2
    go_wp2
    go_roundw
    case rel=>exact ⟨k+1,_,_,_,_,by omega,by go_num,rfl,int_eq (by rw[HNF.out];simp),hb5,HM5,hn5,HI5,HO5⟩
    case measure=>simp[intOf];omega
   ·have HHIT:=Lib.hid hhit
    have d0:decide (x<0)=true:=decide_eq_true h0
    clear HC hhit ie h0
    replace hn:=Lib.hid hn
    replace hx0:=Lib.hid hx0
    replace hfk:=Lib.hid hfk
    go_wp2_with (first
     | (at_lookup;refine wpList_hit rfl _ _ 107 rfl 3 Tryz.underlying107 (.int .i64 0) (zero_int _) rfl HM.out x rfl HWX.out _ HHIT.out ?_)
     | (at_mapUpdate;refine wpList_upd rfl _ _ _ 107 rfl 3 Tryz.underlying107 rfl HM.out (by unfold maxLen;omega) x rfl HWX.out (.int .i64 (fk:Int)) rfl ?_;intro w2 hM2 hg2;have HO2:=Lib.hid (owns_agree (S:=fun b=>b≠w.heap.size) HO.out (.of_grown hg2 (fun b hb e=>by cases e;exact hb rfl)) (fun j hj=>by have:=(HO.out.lt j hj).1;show j≠_;omega));have hs2:=hg2.size)
     | (at_builtin;refine wpList_push rfl (.tmp 45) (.tmp 47) 44 rfl 3 _ 8 Tryz.underlying44 info_int rfl (w.heap.size+1) _ _ _ rfl HO2.out (.int .i64 (fk:Int)) rfl rfl (by omega) (by omega) (by omega) ?_;intro g' c' w5 hown5 hbel5 hag5 hat5))
    have hn:=hn.out
    have hx0:=hx0.out
    have hfk:=hfk.out
    have HO5:Hid (w5.ownsRow (w.heap.size+1) 3 1 (.slice (some ⟨g',0,none⟩) (k+1) c') (k+1) ((labs (keys (keyN s q) (k+1))).map (Value.int .i64))):=Lib.hid (by rw[HST.out,HNW.out.1];simpa using hown5)
    have hb2:=hb.grown hg2 hb.size (fun j hj=>by cases hj;exact Nat.le_refl _)
    have hb5:=hb2.trans (hbel5.mono (Nat.le_succ _))
    have HM5:=Lib.hid (hM2.agree (S:=fun b=>b=w.heap.size) (.of_below hbel5 fun b hb _=>by omega) rfl)
    have HI5:=Lib.hid (HI.out.new hn)
    rw[←hx0,←hfk]at HI5
    have HNF:=Lib.hid HNW.out.2
    have hn5:(if (m x).isSome then n else n+1)≤k+1:=by split<;>omega
    clear hown5 hbel5 hag5 hat5 hM2 hg2 HO2 hb2 hs2
    go_wp2
    go_roundw
    case rel=>exact ⟨k+1,_,_,_,_,by omega,by go_num,rfl,int_eq (by rw[HNF.out];simp),hb5,HM5,hn5,HI5,HO5⟩
    case measure=>simp[intOf];omega
theorem fvw_wf {S:Nat→Prop} {w:World} {v:Value} {s:SysF} (h:SysV S w v s) (hg:GoodS s s.N s.K) {q:Nat} (hq:q<s.N):∀e,e<s.ex.length→WF (fvw s e q):=fun e he=>by
 rw[←fvL_at s e hq];exact nth_wf (fvL_wf hg h he) q
theorem pClasses_calls {S:Nat→Prop} {w:World} {v:Value} {s:SysF} (q:Int) (h:SysV S w v s) (hf:PFew s.p):
  Calls Tryz.prog 14 #[v,.int .i64 q] w (Post w (ClsR w.heap.size s q)):=by
 have KO:Hid (∀W,Below w.heap.size w W→Calls Tryz.prog 37 #[v] W (Post W (OfR W.heap.size s))):=Lib.hid fun W hW=>fof_calls (h.ext hW) hf
 have KC:Hid (verE s=0→s.ex.length≤4096∧∀x:Nat,x<s.N→∀e,e<s.ex.length→WF (fvw s e x)):=Lib.hid fun h0=>⟨ex_le h0 (good_sys h0 h.moves8),fun x hx=>fvw_wf h (good_sys h0 h.moves8) hx⟩
 have HCE:Hid (clE s q=if verE s=0 then (if q<0∨(s.N:Int)≤q then 2 else 0) else verE s):=Lib.hid rfl
 have HE:Hid (∀w',clE s q≠0→ClsR w.heap.size s q w' (.tuple #[.slice none 0 0,.int .i64 (clE s q)])):=Lib.hid fun w' h=>.inr ⟨h,rfl⟩
 have HK:Hid (clE s q=0→∀(x:Nat) w' u,q=x→Ints (fun b=>w.heap.size≤b) w' u (clsL s x)→ClsR w.heap.size s q w' (.tuple #[u,.int .i64 0])):=Lib.hid fun h0 x w' u hx hu=>by
  subst hx;exact cls_ok h0 hu
 obtain ⟨ce,hce⟩:∃t,t=clE s q:=⟨_,rfl⟩
 rw[←hce]at HCE HE HK
 obtain ⟨LR,hLR⟩:∃LR,LR=ClsR w.heap.size s q:=⟨_,rfl⟩
 rw[←hLR]at HE HK ⊢
 obtain ⟨vc,vs,vt,vx,rfl,hc,hs,ht,hx⟩:=h
 obtain ⟨ca,cc,rfl,_⟩:=hc.form
 obtain ⟨sa,sc,rfl,_⟩:=hs.form
 obtain ⟨ta,tc,rfl,_⟩:=ht.form
 obtain ⟨xa,xc,rfl,xad,_⟩:=hx.form2
 have ex:=ext_alloc w (.cells #[.int .i64 s.p.n,.int .i64 s.p.ins,.int .i64 s.p.outs,.slice ca s.p.cs.length cc,.int .i64 s.p.an,.slice sa s.p.st.length sc,.int .i64 s.p.rounds,.int .i64 s.tn,.slice ta s.tab.length tc,.slice xa s.ex.length xc] 35)
 have R0:=row_new w [.int .i64 s.p.n,.int .i64 s.p.ins,.int .i64 s.p.outs,.slice ca s.p.cs.length cc,.int .i64 s.p.an,.slice sa s.p.st.length sc,.int .i64 s.p.rounds,.int .i64 s.tn,.slice ta s.tab.length tc,.slice xa s.ex.length xc] 35
 have t0:=R0.cell (j:=0) rfl
 have t1:=R0.cell (j:=1) rfl
 have t2:=R0.cell (j:=2) rfl
 have t3:=R0.cell (j:=3) rfl
 have t4:=R0.cell (j:=4) rfl
 have t5:=R0.cell (j:=5) rfl
 have t6:=R0.cell (j:=6) rfl
 have t7:=R0.cell (j:=7) rfl
 have t8:=R0.cell (j:=8) rfl
 have t9:=R0.cell (j:=9) rfl
 have l0:=R0.lt
 clear hc hs ht hx xad hf hLR hce
 go_enter Tryz.func14,Tryz.ntmps14
 go_wp2_with fail
 refine (KO.out _ ex).mono ?_
 rintro _ w1 ⟨_,rfl,hb,hO⟩
 replace R0:=R0.ext hb
 replace ex:=ext_trans ex hb
 clear hb KO R0 t0 t1 t2 t3 t4 t5 t6 t7 t8 t9 l0
 rcases hO with ⟨hv,g,la,lc,rfl,hF⟩ | ⟨hv,rfl⟩
 case inr=>
  have h2:=HCE.out.trans (if_neg hv)
  have RR:=Lib.hid (HE.out w1 (by rw[h2];exact hv))
  rw[h2]at RR
  obtain ⟨t,htt⟩:∃t,t=verE s:=⟨_,rfl⟩
  rw[←htt]at RR hv ⊢
  have d0:(t !=0)=true:=by simp[hv]
  clear htt hv h2 HCE HE HK KC
  go_wp2
  go_ret2
  exact .mk ex RR.out
 have HCE2:=Lib.hid (HCE.out.trans (if_pos hv))
 obtain ⟨hxl,hwf⟩:=KC.out hv
 have HWF:=Lib.hid hwf
 have HF:=Lib.hid hF
 have x0:=hF.x0
 have lg:=hF.row.lt
 have d0:((0:Int) !=0)=false:=rfl
 clear hv hF KC HCE hwf
 by_cases h1:q<0
 ·have d1:decide (q<0)=true:=decide_eq_true h1
  have h2:=HCE2.out.trans (if_pos (.inl h1))
  have RR:=Lib.hid (HE.out w1 (by rw[h2];decide))
  rw[h2]at RR
  clear h1 h2
  go_wp2
  go_ret2
  exact .mk ex RR.out
 have d1:decide (q<0)=false:=decide_eq_false h1
 by_cases h3:(s.N:Int)≤q
 ·have d2:decide ((s.N:Int)≤q)=true:=decide_eq_true h3
  have h2:=HCE2.out.trans (if_pos (.inr h3))
  have RR:=Lib.hid (HE.out w1 (by rw[h2];decide))
  rw[h2]at RR
  clear h1 h2
  go_wp2
  go_ret2
  exact .mk ex RR.out
 have d2:decide ((s.N:Int)≤q)=false:=decide_eq_false h3
 have h2:=HCE2.out.trans (if_neg (fun h=>by rcases h with h | h;exact h1 h;exact h3 h))
 have HK2:=Lib.hid (HK.out h2)
 obtain ⟨x,hqx⟩:∃x:Nat,q=x:=⟨q.toNat,by omega⟩
 have KC3:=Lib.hid (classes_calls HF.out hxl (show x<s.N by omega) (HWF.out x (by omega)))
 have HQX:=Lib.hid hqx
 have KC4:Hid (Calls Tryz.prog 38 #[.pointer (some ⟨g,0,none⟩),.int .i64 q] w1 (Post w1 fun w' r=>Ints (fun b=>w1.heap.size≤b) w' r (clsL s x))):=Lib.hid (by rw[HQX.out];exact KC3.out)
 clear hqx h2 KC3
 go_upto_region 6 with fail
 clear h1 h3 d0 d1 d2
 go_wp2_with fail
 refine KC4.out.mono ?_
 rintro _ w2 ⟨u,rfl,hb,hi⟩
 have ex2:=ext_trans ex hb
 have hsz:=ex.size
 have RR:=Lib.hid (HK2.out x w2 u HQX.out (hi.mono fun b hb=>by omega))
 clear hb hi ex hsz KC4 x0 lg
 go_wp2
 go_ret2
 exact .mk ex2 RR.out
theorem join_ok {s:SysF} (h:s.ex.length≤4096) (p:Nat):joinR (cmpL s p) (clsL s (p+1))=(cmpL s (p+1),0):=by
 unfold joinR
 rw[if_pos (Pair.both ⟨cmpL_good (by omega) p,clsL_good (p+1) (by omega),by rw[clsL_len,cmpL_len]⟩)];rfl
theorem pComps_calls {S:Nat→Prop} {w:World} {v:Value} {s:SysF} (h:SysV S w v s) (hf:PFew s.p):
  Calls Tryz.prog 17 #[v] w (Post w (CmpR w.heap.size s)):=by
 have KO:Hid (∀W,Below w.heap.size w W→Calls Tryz.prog 37 #[v] W (Post W (OfR W.heap.size s))):=Lib.hid fun W hW=>fof_calls (h.ext hW) hf
 have KC:Hid (verE s=0→s.ex.length≤4096∧1≤s.N∧s.N≤5∧∀x:Nat,x<s.N→∀e,e<s.ex.length→WF (fvw s e x)):=Lib.hid fun h0=>⟨ex_le h0 (good_sys h0 h.moves8),(good_sys h0 h.moves8).pok.n1.1,(good_sys h0 h.moves8).pok.n1.2,fun x hx=>fvw_wf h (good_sys h0 h.moves8) hx⟩
 have HE:Hid (∀w',verE s≠0→CmpR w.heap.size s w' (.tuple #[.slice none 0 0,.int .i64 (verE s)])):=Lib.hid fun w' h=>.inr ⟨h,rfl⟩
 have HK:Hid (verE s=0→∀w' u,Ints (fun b=>w.heap.size≤b) w' u (cmpL s (s.N - 1))→CmpR w.heap.size s w' (.tuple #[u,.int .i64 0])):=Lib.hid fun h0 w' u hu=>.inl ⟨h0,u,rfl,hu⟩
 obtain ⟨LR,hLR⟩:∃LR,LR=CmpR w.heap.size s:=⟨_,rfl⟩
 rw[←hLR]at HE HK ⊢
 obtain ⟨vc,vs,vt,vx,rfl,hc,hs,ht,hx⟩:=h
 obtain ⟨ca,cc,rfl,_⟩:=hc.form
 obtain ⟨sa,sc,rfl,_⟩:=hs.form
 obtain ⟨ta,tc,rfl,_⟩:=ht.form
 obtain ⟨xa,xc,rfl,xad,_⟩:=hx.form2
 have ex:=ext_alloc w (.cells #[.int .i64 s.p.n,.int .i64 s.p.ins,.int .i64 s.p.outs,.slice ca s.p.cs.length cc,.int .i64 s.p.an,.slice sa s.p.st.length sc,.int .i64 s.p.rounds,.int .i64 s.tn,.slice ta s.tab.length tc,.slice xa s.ex.length xc] 35)
 have R0:=row_new w [.int .i64 s.p.n,.int .i64 s.p.ins,.int .i64 s.p.outs,.slice ca s.p.cs.length cc,.int .i64 s.p.an,.slice sa s.p.st.length sc,.int .i64 s.p.rounds,.int .i64 s.tn,.slice ta s.tab.length tc,.slice xa s.ex.length xc] 35
 have t0:=R0.cell (j:=0) rfl
 have t1:=R0.cell (j:=1) rfl
 have t2:=R0.cell (j:=2) rfl
 have t3:=R0.cell (j:=3) rfl
 have t4:=R0.cell (j:=4) rfl
 have t5:=R0.cell (j:=5) rfl
 have t6:=R0.cell (j:=6) rfl
 have t7:=R0.cell (j:=7) rfl
 have t8:=R0.cell (j:=8) rfl
 have t9:=R0.cell (j:=9) rfl
 have l0:=R0.lt
 clear hc hs ht hx xad hf hLR
 go_enter Tryz.func17,Tryz.ntmps17
 go_wp2_with fail
 refine (KO.out _ ex).mono ?_
 rintro _ w1 ⟨_,rfl,hb,hO⟩
 replace R0:=R0.ext hb
 replace ex:=ext_trans ex hb
 clear hb KO R0 t0 t1 t2 t3 t4 t5 t6 t7 t8 t9 l0
 rcases hO with ⟨hv,g,la,lc,rfl,hF⟩ | ⟨hv,rfl⟩
 case inr=>
  have RR:=Lib.hid (HE.out w1 hv)
  obtain ⟨t,htt⟩:∃t,t=verE s:=⟨_,rfl⟩
  rw[←htt]at RR hv ⊢
  have d0:(t !=0)=true:=by simp[hv]
  clear htt hv HE HK KC
  go_wp2
  go_ret2
  exact .mk ex RR.out
 have HK2:=Lib.hid (HK.out hv)
 obtain ⟨hxl,hN1,hN5,hwf⟩:=KC.out hv
 have HWF:=Lib.hid hwf
 have HF:=Lib.hid hF
 have HJ:=Lib.hid (join_ok (s:=s) hxl)
 have HC0:Hid (clsL s 0=cmpL s 0):=Lib.hid rfl
 have KC0:Hid (Calls Tryz.prog 38 #[.pointer (some ⟨g,0,none⟩),.int .i64 0] w1 (Post w1 fun w' r=>Ints (fun b=>w1.heap.size≤b) w' r (cmpL s 0))):=Lib.hid (classes_calls hF hxl (q:=0) hN1 (hwf 0 hN1))
 have KCL:Hid (∀x:Nat,x<s.N→∀W,Below w1.heap.size w1 W→Calls Tryz.prog 38 #[.pointer (some ⟨g,0,none⟩),.int .i64 x] W (Post W fun w' r=>Ints (fun b=>W.heap.size≤b) w' r (clsL s x))):=Lib.hid fun x hx W hW=>classes_calls (hF.ext hW) hxl hx (hwf x hx)
 have d0:((0:Int) !=0)=false:=rfl
 have hsz:=ex.size
 clear hv hF KC hwf HE HK
 go_wp2_with fail
 refine KC0.out.mono ?_
 rintro _ w2 ⟨u,rfl,hb,hi⟩
 have HI0:Hid (Ints (fun b=>w.heap.size≤b) w2 u (cmpL s 0)):=Lib.hid (hi.mono fun b hb=>by omega)
 have HEX:=Lib.hid ex
 have hb2:=hb
 clear hb hi KC0 ex
 go_wp2
 go_loopw [5,6,7] (fun ev o i wr=>∃k:Nat,1≤k∧k≤s.N∧ev=.int .i64 0∧i=.int .i64 k∧Below w1.heap.size w1 wr∧Hid (Ints (fun b=>w.heap.size≤b) wr o (cmpL s (k - 1)))) (fun _ _ i _=>s.N - (intOf i).toNat)
 case atStart=>exact ⟨1,Nat.le_refl _,hN1,rfl,rfl,hb2,HI0⟩
 case round=>
  clear hb2 HI0
  obtain ⟨k,hk1,hk,rfl,rfl,hb,HO⟩:=hrel
  have x0:=(HF.out.ext hb).x0
  have lg:=(HF.out.ext hb).row.lt
  have hHO:=HO.out
  obtain ⟨oa,oc,rfl,_⟩:=hHO.form
  clear hHO
  by_cases hlt:k<s.N
  case neg=>
   obtain rfl:k=s.N:=by omega
   have RR:=Lib.hid (HK2.out wr _ HO.out)
   have ex:=ext_trans HEX.out hb
   go_wp2
   go_ret2
   exact .mk ex RR.out
  have KC2:=Lib.hid (KCL.out k hlt wr hb)
  obtain ⟨m,hm⟩:∃m,k=m+1:=⟨k - 1,by omega⟩
  have hm2:k - 1=m:=by omega
  rw[hm2]at HO ⊢
  have HJM:Hid (joinR (cmpL s m) (clsL s k)=(cmpL s k,0)):=Lib.hid (by rw[hm];exact HJ.out m)
  clear hm hm2
  go_wp2_with fail
  refine KC2.out.mono ?_
  rintro _ w3 ⟨u1,rfl,hb3,hi⟩
  obtain ⟨ia,ic,rfl,_⟩:=hi.form
  have hb':=ext_trans hb hb3
  have KG:=Lib.hid (join_calls (HO.out.ext hb3) hi)
  rw[HJM.out]at KG
  have hsz2:=hb'.size
  clear hi hb hb3 HO KC2 x0 lg
  go_wp2_with fail
  refine KG.out.mono ?_
  rintro _ w4 ⟨_,rfl,hb4,gv,rfl,hi⟩
  have hb5:=ext_trans hb' hb4
  have HO3:Hid (Ints (fun b=>w.heap.size≤b) w4 gv (cmpL s (k+1 - 1))):=Lib.hid (hi.mono fun b hb=>by omega)
  clear hi hb' hb4 KG hsz2
  go_wp2
  go_roundw
  case rel=>exact ⟨k+1,by omega,by omega,rfl,by go_num,hb5,HO3⟩
  case measure=>simp[intOf];omega
end Go.Proofs.YtaijafjfafbcfaaGreat
namespace Go.Proofs.YtaijafjfafbcfaaGreat
open Go.RowKit Go.Shelf
attribute [local go_sem ↓] Go.wp_at_zero Go.wp_at_succ
theorem grownBy_drewN (w:World) (n:Nat):w.grownBy (w.drewN n) none:=⟨rfl,rfl,rfl,Nat.le_refl _,fun _ _ _=>rfl⟩
theorem QW.grown {w w':World} (h:QW w w'):w.grownBy w' none:=by obtain ⟨n,rfl⟩:=h;exact grownBy_drewN w n
theorem abides_q {β:Type} {B:Nat} {J:β→World→Prop} (hJ:AbidesFrom B J) {s:β} {W W':World} (h:J s W) (hq:QW W W'):J s W':=hJ s W W' none h hq.grown (fun r e=>by cases e)
structure TimV (w:World) (S S2:Nat→Prop) (xa:Option Addr) (xc:Nat) (xs:List ExecD) (e N K:Nat) (a2:Option Addr) (c2:Nat) (ch:List Int):Prop where
 ex:Sl kExec S w (.slice xa xs.length xc) xs
 lt:e<xs.length
 len:(nthX xs e).vs.length=K+1
 rows:∀k,k≤K→(nthL (nthX xs e).vs k).length=N
 vw:∀k,k≤K→∀q,q<N→∃z:Nat,z<ch.length∧nth (nthL (nthX xs e).vs k) q=z
 rule:Ints S2 w (.slice a2 ch.length c2) ch
 N5:N≤5
 K6:K≤6
end Go.Proofs.YtaijafjfafbcfaaGreat
