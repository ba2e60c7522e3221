/- Part of the proof that the laws answer true for every input. -/
import Derived.Test.YtaijafjfafbcfaaGreatPXb23
set_option linter.unusedSimpArgs false
set_option linter.unnecessarySimpa false
set_option linter.unusedVariables false
set_option maxRecDepth 100000
set_option maxHeartbeats 40000000
namespace Go.Proofs.YtaijafjfafbcfaaGreat
open Go.RowKit Go.Maps
attribute [local go_sem ↓] Go.wp_at_zero Go.wp_at_succ
structure PlayH (B BB MB:Nat) (N:Nat) (W:World) (vv:Value) (tab:List (List Int)) (S:Nat→Prop) (inn:List Int) (word:List (List Int)):Prop where
 st:BSt B BB MB (N:Int) W vv tab
 n1:1≤N
 n5:N≤5
 hB:B≤W.heap.size
 len:inn.length=N
 low:∀b,S b→b<B
 bit:∀r∈word,∀q,q<5→0≤nth r (q+1)∧nth r (q+1)<32
 few:word.length≤6
 room:tab.length≤90000
theorem play_calls {B BB MB:Nat} {N:Nat} {W:World} {vv vin vw:Value} {tab:List (List Int)} {S:Nat→Prop} {inn:List Int} {word:List (List Int)} (h:PlayH B BB MB N W vv tab S inn word) (hin:Ints S W vin inn) (hwd:Sl (kFlat 7) S W vw word):
  Calls Tryz.prog 73 #[.pointer (some ⟨BB,0,none⟩),vin,vw] W (fun e W'=>∃rv vv',e=.returned rv∧PE B BB MB (N:Int) W.heap.size W vv W' vv' (playV N inn word tab word.length).1∧Lists (PR W.heap.size BB MB W' vv') W' rv (playV N inn word tab word.length).2):=by
 obtain ⟨ia,ic,rfl,iad,_⟩:=hin.form
 obtain ⟨wa,wc,rfl,wad,_⟩:=hwd.form2
 obtain ⟨i0,hi,hz0,hz1,hz2⟩:=info_parts info_int
 obtain ⟨hst,hn1,hn5,hB,hlen,hlow,hbit,hfew,hroom⟩:=h
 have HS:=Lib.hid hst
 have HI:=Lib.hid hin
 have HW:=Lib.hid hwd
 have HIA:=Lib.hid iad
 have HBIT:=Lib.hid hbit
 have HWF:=Lib.hid hin.wf
 have HLEN:=Lib.hid hlen
 have HNB0:=hst.bm
 have b0:=hst.row.cell (j:=0) rfl
 have hBBl:=hst.row.lt
 obtain ⟨NB,hNB⟩:∃NB,NB=W.heap.size:=⟨_,rfl⟩
 have HLOW:Hid (∀b,S b→keepsB BB MB vv b∧b≠NB):=Lib.hid fun b hb=>⟨hst.low (hlow b hb),by have:=hlow b hb;omega⟩
 clear hst hin hwd hbit hlow iad wad
 go_enter Tryz.func73,Tryz.ntmps73
 go_wp2_with (at_make;refine wpList_make_full _ rfl _ _ 44 rfl W.heap.size 3 i0 (.int .i64 0) 1 Tryz.underlying44 hi hz0 hz1 .i64 .i64 _ _ N rfl rfl rfl rfl (by rw[hz2];omega) (by unfold maxLen;omega) (Nat.le_refl _) ?_;intro w1 hown1 hgrow1;have hbw:Below W.heap.size W w1:=(Below.refl _ W).grown hgrow1 (Nat.le_refl _) (fun j hj=>by cases hj);have hmc:(madeCells #[Value.int .i64 0] (N * 1)).toList=layR (fun q=>firstV q (nth inn q)) tab N 0:=(by rw[Nat.mul_one,layR_zero,List.map_replicate];exact (toList_madeCells_one _ _));have RN:=(Row.of_own hown1).1.get hmc)
 have hs1:NB<w1.heap.size:=by rw[hNB];exact RN.lt
 have HPE:Hid (PE B BB MB (N:Int) NB W vv w1 vv tab):=Lib.hid ((PE.start HS.out).ext hB hbw)
 have HPR:Hid (PR NB BB MB w1 vv NB):=Lib.hid ⟨Nat.le_refl _,hs1,HS.out.fresh (by omega)⟩
 rw[←hNB]at RN hbw ⊢
 have HNB:=Lib.hid hNB
 clear hNB hown1 hgrow1 hmc hs1 b0 hBBl
 go_loopw [8,24] (fun _ i wr=>∃(k:Nat) (vv':Value),k≤N∧i=.int .i64 k∧Hid (PE B BB MB (N:Int) NB W vv wr vv' (layV (fun q=>firstV q (nth inn q)) tab k).1)∧Hid (Row wr NB 3 (layR (fun q=>firstV q (nth inn q)) tab N k))∧Hid (PR NB BB MB wr vv' NB)) (fun _ i _=>N - (intOf i).toNat)
 case atStart=>exact ⟨0,vv,Nat.zero_le _,rfl,HPE,Lib.hid RN,HPR⟩
 case round=>
  clear HPE RN HPR hbw
  obtain ⟨k,vv1,hk,rfl,HPE,HRN,HPR⟩:=hrel
  by_cases hlt:k<N
  case neg=>
   obtain rfl:k=N:=by omega
   have P0:=HPE.out
   have hR0:=HRN.out
   rw[layR_full]at hR0
   have hLl:=layV_len (fun q=>firstV q (nth inn q)) tab k
   have hLw:∀x∈(layV (fun q=>firstV q (nth inn q)) tab k).2,WF x:=fun x hx=>by have:=layV_bound (fun q=>firstV q (nth inn q)) (Nat.le_refl _) k x hx;exact WF.small (by omega)
   have RO:=row_new wr [.slice (some ⟨NB,0,none⟩) k k] 44
   have hNw:=HPR.out.2.1
   have Pa:=HPR.out.same (ext_alloc wr (.cells #[.slice (some ⟨NB,0,none⟩) k k] 44)).size
   have HO:Hid (OwnK kInts 44 NB (PR NB BB MB (wr.alloc (.cells #[.slice (some ⟨NB,0,none⟩) k k] 44)) vv1) (wr.alloc (.cells #[.slice (some ⟨NB,0,none⟩) k k] 44)) (.slice (some ⟨wr.heap.size,0,none⟩) 1 1) [(layV (fun q=>firstV q (nth inn q)) tab k).2]):=Lib.hid (own_one RO (by omega) (row_elem (hR0.alloc _) hLl (by omega) hLw ⟨Pa,by omega⟩))
   have HOO:Hid (PR NB BB MB (wr.alloc (.cells #[.slice (some ⟨NB,0,none⟩) k k] 44)) vv1 wr.heap.size):=Lib.hid ⟨by omega,by simp,P0.st.fresh (Nat.le_refl _)⟩
   have HG:Hid (Row (wr.alloc (.cells #[.slice (some ⟨NB,0,none⟩) k k] 44)) NB 3 ((layV (fun q=>firstV q (nth inn q)) tab k).2.map (Value.int .i64))∧PR NB BB MB (wr.alloc (.cells #[.slice (some ⟨NB,0,none⟩) k k] 44)) vv1 NB):=Lib.hid ⟨hR0.alloc _,Pa⟩
   have HP1:Hid (PE B BB MB (k:Int) NB W vv (wr.alloc (.cells #[.slice (some ⟨NB,0,none⟩) k k] 44)) vv1 (playV k inn word tab 0).1):=Lib.hid (P0.ext hB (ext_alloc _ _))
   clear P0 hR0 hLl hLw RO hNw Pa HPE HRN HPR hlt hk
   go_wp2
   obtain ⟨OB,hOB⟩:∃OB,OB=wr.heap.size:=⟨_,rfl⟩
   obtain ⟨w4,hw4⟩:∃w4,w4=wr.alloc (.cells #[.slice (some ⟨NB,0,none⟩) k k] 44):=⟨_,rfl⟩
   rw[←hOB]at HO HOO
   rw[←hOB]
   rw[←hw4]at HO HOO HG HP1
   rw[←hw4]
   clear hOB hw4
   go_loopw [7,9,10,11,12,13,14,15,16,44,56,66] (fun nv ov _ _ _ _ _ _ _ i _ _ wr=>∃(m:Nat) (vv':Value) (g:Nat) (oa:Option Addr) (oc:Nat),m≤word.length∧i=.int .i64 m∧nv=.slice (some ⟨g,0,none⟩) k k∧ov=.slice oa (m+1) oc∧Hid (PE B BB MB (k:Int) NB W vv wr vv' (playV k inn word tab m).1)∧Hid (Row wr g 3 ((nthL (playV k inn word tab m).2 m).map (Value.int .i64))∧PR NB BB MB wr vv' g)∧Hid (OwnK kInts 44 NB (PR NB BB MB wr vv') wr (.slice oa (m+1) oc) (playV k inn word tab m).2)∧Hid (∀q,(Value.slice oa (m+1) oc).ownBlock=some q→PR NB BB MB wr vv' q)) (fun _ _ _ _ _ _ _ _ _ i _ _ _=>word.length - (intOf i).toNat)
   case atStart=>exact ⟨0,vv1,NB,some ⟨OB,0,none⟩,1,Nat.zero_le _,rfl,rfl,rfl,HP1,HG,HO,Lib.hid fun q hq=>by have:OB=q:=(by simpa[Value.ownBlock] using hq);rw[←this];exact HOO.out⟩
   case round=>
    clear HO HOO HG HP1
    obtain ⟨m,vv1,g,oa,oc,hm,rfl,rfl,rfl,HP,HG,HO,HOO⟩:=hrel
    by_cases hmt:m<word.length
    case neg=>
     obtain rfl:m=word.length:=by omega
     go_wp2
     go_ret
     rw[←HNB.out]
     exact ⟨_,vv1,rfl,HP.out,Lists.of_sl (HO.out.slS (by rw[playV_len];omega) HOO.out)⟩
    obtain ⟨r,hr⟩:∃r,r=nthL word m:=⟨_,rfl⟩
    have HRR:=Lib.hid hr
    have qw:=(idx_word (HW.out.ad.1.agree (HP.out.ag.mono HLOW.out)) m hmt)
    obtain ⟨hw0,hw7⟩:=(HW.out.agree (HP.out.ag.mono HLOW.out)).nums hmt (by decide)
    rw[←hr]at hw0 hw7
    have c1:=hw7 1 (by decide)
    have c2:=hw7 2 (by decide)
    have c3:=hw7 3 (by decide)
    have c4:=hw7 4 (by decide)
    have c5:=hw7 5 (by decide)
    have c6:=hw7 6 (by decide)
    have HBR:Hid (∀q,q<5→0≤nth r (q+1)∧nth r (q+1)<32):=Lib.hid (by rw[hr];exact HBIT.out _ (nthL_mem hmt))
    have hNw:NB≤wr.heap.size:=by have:=HG.out.2.2.1;have:=HG.out.2.1;omega
    have HRB0:Hid (Row (wr.alloc (.cells #[.int .i64 (nth r 0),.int .i64 (nth r 1),.int .i64 (nth r 2),.int .i64 (nth r 3),.int .i64 (nth r 4),.int .i64 (nth r 5),.int .i64 (nth r 6)] 119)) wr.heap.size 119 [.int .i64 (nth r 0),.int .i64 (nth r 1),.int .i64 (nth r 2),.int .i64 (nth r 3),.int .i64 (nth r 4),.int .i64 (nth r 5),.int .i64 (nth r 6)]):=Lib.hid (row_new _ [_,_,_,_,_,_,_] _)
    have b0:=(HP.out.st.row.alloc (.cells #[.int .i64 (nth r 0),.int .i64 (nth r 1),.int .i64 (nth r 2),.int .i64 (nth r 3),.int .i64 (nth r 4),.int .i64 (nth r 5),.int .i64 (nth r 6)] 119)).cell (j:=0) rfl
    have hBl:=HP.out.st.row.lt
    clear hw7 hr
    go_wp2_with (at_make;refine wpList_make_full _ rfl _ _ 44 rfl (wr.heap.size+1) 3 i0 (.int .i64 0) 1 Tryz.underlying44 hi hz0 hz1 .i64 .i64 _ _ k rfl rfl rfl rfl (by rw[hz2];omega) (by unfold maxLen;omega) (by simp) ?_;intro w5 hown5 hgrow5;clear b0 qw c1 c2 c3 c4 c5 c6 hw0)
    have hb5:Below wr.heap.size wr w5:=((Below.refl _ wr).alloc (Nat.le_refl _) _).grown hgrow5 (by simp) (fun j hj=>by cases hj)
    have hb5':Below (wr.heap.size+1) (wr.alloc (.cells #[.int .i64 (nth r 0),.int .i64 (nth r 1),.int .i64 (nth r 2),.int .i64 (nth r 3),.int .i64 (nth r 4),.int .i64 (nth r 5),.int .i64 (nth r 6)] 119)) w5:=(Below.refl _ _).grown hgrow5 (by simp) (fun j hj=>by cases hj)
    obtain ⟨prev,hprev⟩:∃prev,prev=nthL (playV k inn word tab m).2 m:=⟨_,rfl⟩
    obtain ⟨tm,htm⟩:∃tm,tm=(playV k inn word tab m).1:=⟨_,rfl⟩
    obtain ⟨outl,hol⟩:∃outl,outl=(playV k inn word tab m).2:=⟨_,rfl⟩
    have HEND:Hid ((playV k inn word tab (m+1)).1=(layV (fun q=>seenV r k (m+1) q prev) tm k).1∧(playV k inn word tab (m+1)).2=outl++[(layV (fun q=>seenV r k (m+1) q prev) tm k).2]∧nthL (playV k inn word tab (m+1)).2 (m+1)=(layV (fun q=>seenV r k (m+1) q prev) tm k).2):=Lib.hid (by
     have e2:(playV k inn word tab (m+1)).2=outl++[(layV (fun q=>seenV r k (m+1) q prev) tm k).2]:=by rw[hol,htm,hprev,HRR.out];rfl
     refine ⟨by rw[htm,hprev,HRR.out];rfl,e2,?_⟩
     rw[e2]
     have hol2:outl.length=m+1:=by rw[hol,playV_len]
     unfold nthL
     rw[←hol2,List.getD_eq_getElem?_getD,List.getElem?_append_right (Nat.le_refl _),Nat.sub_self];rfl)
    have HOL:Hid (outl.length=m+1∧tm.length≤90000+k * (m+1)∧prev.length=k∧∀x∈prev,WF x):=Lib.hid (by
     have hb:=playV_bound k inn word (Nat.le_refl tab.length) m prev (by rw[hprev];exact nthL_mem (by rw[playV_len];omega))
     have hsz:=playV_size k inn word tab m
     have hkm:k * (m+1)≤5 * 7:=Nat.mul_le_mul (by omega) (by omega)
     have e3:(k:Int) * ((m:Int)+1)=((k * (m+1):Nat):Int):=by simp
     refine ⟨by rw[hol,playV_len],by rw[htm];omega,hb.1,fun x hx=>?_⟩
     have:=hb.2 x hx
     exact WF.small (by omega))
    rw[←htm]at HP
    rw[←hprev]at HG
    rw[←hol]at HO
    have hmc:(madeCells #[Value.int .i64 0] (k * 1)).toList=layR (fun q=>seenV r k (m+1) q prev) tm k 0:=(by rw[Nat.mul_one,layR_zero,List.map_replicate];exact (toList_madeCells_one _ _))
    have RX:=(Row.of_own hown5).1.get hmc
    rw[World.size_alloc]at RX
    obtain ⟨RB,hRB⟩:∃RB,RB=wr.heap.size:=⟨_,rfl⟩
    have hs5:RB+1<w5.heap.size:=by rw[hRB];exact RX.lt
    have HST5:Hid (PE B BB MB (k:Int) (RB+1) w5 vv1 w5 vv1 (layV (fun q=>seenV r k (m+1) q prev) tm 0).1):=Lib.hid (PE.start (HP.out.st.ext hb5))
    have HPX:Hid (PR NB BB MB w5 vv1 (RB+1)):=Lib.hid ⟨by omega,hs5,HP.out.st.fresh (by omega)⟩
    have hgl:=HG.out.2.2.1
    have HK5:Hid (∀w',Agree (fun b=>keepsB BB MB vv1 b∧b≠RB+1) w5 w'→Row w' g 3 (prev.map (Value.int .i64))∧Row w' RB 119 [.int .i64 (nth r 0),.int .i64 (nth r 1),.int .i64 (nth r 2),.int .i64 (nth r 3),.int .i64 (nth r 4),.int .i64 (nth r 5),.int .i64 (nth r 6)]):=Lib.hid fun w' hA=>⟨(HG.out.1.ext hb5).agree hA ⟨HG.out.2.2.2,by omega⟩,(by rw[hRB];exact ((HRB0.out.agree (S:=fun b=>b=wr.heap.size) (.of_below hb5' fun b hb _=>by omega) rfl).agree hA ⟨HP.out.st.fresh (Nat.le_refl _),by omega⟩))⟩
    have HO5:Hid (OwnK kInts 44 NB (PR NB BB MB wr vv1) w5 (.slice oa (m+1) oc) outl):=Lib.hid (HO.out.ext hb5)
    have HP5:Hid (PE B BB MB (k:Int) NB W vv w5 vv1 tm):=Lib.hid (HP.out.ext hB hb5)
    have HN5:Hid (∀w' vv',w5.heap.size≤w'.heap.size→(∀q,vv'.ownBlock=some q→vv1.ownBlock=some q∨w5.heap.size≤q)→∀b,PR NB BB MB wr vv1 b→PR NB BB MB w' vv' b):=Lib.hid fun w' vv' h1 h2 b hb=>(hb.same hb5.size).next h1 h2
    have hB5:B≤w5.heap.size:=Nat.le_trans hB HP5.out.size
    have hNB5:NB≤RB:=by omega
    have HOB:Hid (∀q,(Value.slice oa (m+1) oc).ownBlock=some q→PR NB BB MB wr vv1 q∧q≠RB+1):=Lib.hid fun q hq=>⟨HOO.out q hq,by have:=(HOO.out q hq).2.1;omega⟩
    have HPRX:Hid (∀b,PR NB BB MB wr vv1 b→keepsB BB MB vv1 b∧b≠RB+1):=Lib.hid fun b hb=>⟨hb.2.2,by have:=hb.2.1;omega⟩
    have hBN:B≤NB:=by rw[HNB.out];exact hB
    rw[←hRB]
    rw[←hRB]at RX
    clear hmc hown5 hgrow5 hb5 hb5' hprev htm hol HP HG HO HOO HRB0 hNw hBl hgl hRB
    go_wp2
    go_loopw [13,14,15,16,56,66] (fun _ _ _ _ i _ wr=>∃(j2:Nat) (vv':Value),j2≤k∧i=.int .i64 j2∧Hid (PE B BB MB (k:Int) (RB+1) w5 vv1 wr vv' (layV (fun q=>seenV r k (m+1) q prev) tm j2).1)∧Hid (Row wr (RB+1) 3 (layR (fun q=>seenV r k (m+1) q prev) tm k j2))∧Hid (PR NB BB MB wr vv' (RB+1))) (fun _ _ _ _ i _ _=>k - (intOf i).toNat)
    case atStart=>exact ⟨0,vv1,Nat.zero_le _,rfl,HST5,Lib.hid RX,HPX⟩
    case round=>
     clear HST5 RX HPX hs5
     obtain ⟨j2,vv2,hj,rfl,HP3,HR3,HQ3⟩:=hrel
     obtain ⟨w6,rfl⟩:∃w6:World,w6=wr:=⟨_,rfl⟩
     by_cases hjk:j2<k
     case neg=>
      obtain rfl:j2=k:=by omega
      have hR6:=HR3.out
      rw[layR_full]at hR6
      have hLl:=layV_len (fun q=>seenV r j2 (m+1) q prev) tm j2
      have hLw:∀x∈(layV (fun q=>seenV r j2 (m+1) q prev) tm j2).2,WF x:=fun x hx=>by
       have:=layV_bound (fun q=>seenV r j2 (m+1) q prev) HOL.out.2.1 j2 x hx
       have hkm:j2 * (m+1)≤5 * 7:=Nat.mul_le_mul (by omega) (by omega)
       exact WF.small (by omega)
      have H1:=HN5.out w6 vv2 HP3.out.size HP3.out.og
      have HOw:Hid (OwnK kInts 44 NB (PR NB BB MB w6 vv2) w6 (.slice oa (m+1) oc) outl):=Lib.hid (HO5.out.slot HP3.out.ag (fun q hq=>⟨(HOB.out q hq).1.2.2,(HOB.out q hq).2⟩) HPRX.out H1)
      have HRD:Hid (kInts.rd (fun b=>PR NB BB MB w6 vv2 b∧(Value.slice oa (m+1) oc).ownBlock≠some b) w6 [.slice (some ⟨RB+1,0,none⟩) j2 j2] (layV (fun q=>seenV r j2 (m+1) q prev) tm j2).2):=Lib.hid (row_elem hR6 hLl (by omega) hLw ⟨HQ3.out,fun e=>(HOB.out _ e).2 rfl⟩)
      have hol2:=HOL.out.1
      have hb6:NB≤w6.heap.size:=by have:=HQ3.out.2.1;omega
      have FIN:Hid (∀g7 c7 w7,OwnK kInts 44 NB (PR NB BB MB w6 vv2) w7 (.slice (some ⟨g7,0,none⟩) (m+1+1) c7) (outl++[(layV (fun q=>seenV r j2 (m+1) q prev) tm j2).2])→Below NB w6 w7→(∀S:Nat→Prop,(∀q,(Value.slice oa (m+1) oc).ownBlock=some q→¬S q)→Agree S w6 w7)→((Value.slice oa (m+1) oc).ownBlock=some g7∨w6.heap.size≤g7)→
        PE B BB MB (j2:Int) NB W vv w7 vv2 (playV j2 inn word tab (m+1)).1∧(Row w7 (RB+1) 3 ((nthL (playV j2 inn word tab (m+1)).2 (m+1)).map (Value.int .i64))∧PR NB BB MB w7 vv2 (RB+1))∧OwnK kInts 44 NB (PR NB BB MB w7 vv2) w7 (.slice (some ⟨g7,0,none⟩) (m+1+1) c7) (playV j2 inn word tab (m+1)).2∧∀q,(Value.slice (some ⟨g7,0,none⟩) (m+1+1) c7).ownBlock=some q→PR NB BB MB w7 vv2 q):=Lib.hid fun g7 c7 w7 h1 h2 h3 h4=>by
       rw[HEND.out.2.2,HEND.out.1,HEND.out.2.1]
       have hOw:∀q,(Value.slice oa (m+1) oc).ownBlock=some q→PR NB BB MB w6 vv2 q:=fun q hq=>H1 q (HOB.out q hq).1
       have hA:=h3 (fun b=>(Value.slice oa (m+1) oc).ownBlock≠some b) fun q hq h=>h hq
       have hT:∀b,keepsB BB MB vv2 b∨True→True:=fun _ _=>trivial
       have hP6:=HP5.out.trans HP3.out (by rw[←HNB.out];omega)
       refine ⟨hP6.move hA (h2.mono hBN) (fun e=>(hOw _ e).2.2.1 rfl) (fun e=>(hOw _ e).2.2.2.1 rfl) (fun q hq e=>(hOw _ e).2.2.2.2 hq) (fun b hb _ e=>by have:=(hOw _ e).1;rw[HNB.out]at this;omega),⟨hR6.agree hA fun e=>(HOB.out _ e).2 rfl,HQ3.out.same hA.size⟩,h1.mono fun b hb=>hb.same hA.size,fun q hq=>?_⟩
       have:g7=q:=by simpa[Value.ownBlock] using hq
       subst this
       rcases h4 with e | e
       ·exact (hOw _ e).same hA.size
       ·refine ⟨by omega,?_,hP6.st.fresh e⟩
        rcases h1 with ⟨xs,ho,_⟩
        rcases ho.2 with ⟨e0,_⟩ | ⟨g',_,_,e0,_,hg,_⟩
        ·cases e0
        ·injection e0 with e1;injection e1 with e1;injection e1 with e1;rw[e1];exact (Array.getElem?_eq_some_iff.1 hg).1
      have hby:(outl.length+1) * 24≤140737488355328:=by omega
      have hbn:outl.length<9223372036854775807:=by omega
      clear hR6 hLl hLw H1 HR3 HP3 HQ3 HEND HOL
      go_wp2_with (at_builtin;refine wpList_pushK (K:=kInts) (w:=w6) (S:=PR NB BB MB w6 vv2) (base:=NB) (v:=.slice oa (m+1) oc) (l:=outl) rfl (.tmp 92) (.tmp 94) 79 rfl 44 _ 24 Tryz.underlying79 info_ints rfl (by decide) rfl HOw.out (cs:=[.slice (some ⟨RB+1,0,none⟩) j2 j2]) rfl HRD.out hby hbn hb6 ?_;intro g7 c7 w7 ho hb7 hag hg7;rw[hol2]at ho ⊢;have FF:=Lib.hid (FIN.out g7 c7 w7 ho hb7 hag hg7);clear ho hb7 hag hg7 FIN HOw HRD hby hbn hol2)
      go_roundw
      case rel=>
       obtain ⟨r1,r2,r3,r4⟩:=FF.out
       exact ⟨m+1,vv2,RB+1,some ⟨g7,0,none⟩,c7,by omega,by go_num,rfl,rfl,Lib.hid r1,Lib.hid r2,Lib.hid r3,Lib.hid r4⟩
      case measure=>simp[intOf];omega
     obtain ⟨a,ha⟩:∃a:Nat,nth r (j2+1)=a:=⟨(nth r (j2+1)).toNat,by have:=HBR.out j2 (by omega);omega⟩
     have ha32:a<32:=by have:=HBR.out j2 (by omega);omega
     have hwm:IntKind.i64.wrap ((m:Int)+1)=((m+1:Nat):Int):=by rw[IntKind.wrap_i64];omega
     go_wp2_with fail
     refine (silence_calls _).mono ?_
     rintro _ w8 ⟨_,rfl,hb8,rfl⟩
     have RV:=row_new w8 [.int .i64 j2,.int .i64 ((m:Int)+1),.int .i64 0,.int .i64 (-1),.int .i64 (-1),.int .i64 (-1),.int .i64 (-1),.int .i64 (-1)] 147
     have hb8a:=ext_alloc' hb8 (.cells #[.int .i64 j2,.int .i64 ((m:Int)+1),.int .i64 0,.int .i64 (-1),.int .i64 (-1),.int .i64 (-1),.int .i64 (-1),.int .i64 (-1)] 147)
     have hs8:=hb8.size
     go_wp2
     obtain ⟨VB,hVB⟩:∃VB,VB=w8.heap.size:=⟨_,rfl⟩
     obtain ⟨w9,hw9⟩:∃w9,w9=w8.alloc (.cells #[.int .i64 j2,.int .i64 ((m:Int)+1),.int .i64 0,.int .i64 (-1),.int .i64 (-1),.int .i64 (-1),.int .i64 (-1),.int .i64 (-1)] 147):=⟨_,rfl⟩
     rw[←hVB]at RV ⊢ hs8
     rw[←hw9]at RV hb8a ⊢
     have HRV:Hid (Row w9 VB 147 ((seenV r 0 (m+1) j2 prev).map (Value.int .i64))):=Lib.hid (by rw[seenV_zero];exact RV)
     clear hw9 hVB hb8 RV
     go_loopw [15,16,66] (fun _ _ i wr=>∃j:Nat,j≤k∧i=.int .i64 j∧Below w6.heap.size w6 wr∧Hid (Row wr VB 147 ((seenV r j (m+1) j2 prev).map (Value.int .i64)))) (fun _ _ i _=>k - (intOf i).toNat)
     case atStart=>exact ⟨0,Nat.zero_le _,rfl,hb8a,HRV⟩
     case round=>
      clear hb8a HRV
      obtain ⟨j,hjk2,rfl,hb,HRV⟩:=hrel
      by_cases hjl:j<k
      case neg=>
       obtain rfl:j=k:=by omega
       obtain ⟨v,hv⟩:∃v,v=seenV r j (m+1) j2 prev:=⟨_,rfl⟩
       have hvk:ViewOK v:=by rw[hv];exact seenV_ok HOL.out.2.2.2 (by omega) (by omega)
       have hRV:=HRV.out
       rw[←hv,cells8 hvk.1]at hRV
       have hVl:=hRV.lt
       have t0:=hRV.cell (j:=0) rfl
       have t1:=hRV.cell (j:=1) rfl
       have t2:=hRV.cell (j:=2) rfl
       have t3:=hRV.cell (j:=3) rfl
       have t4:=hRV.cell (j:=4) rfl
       have t5:=hRV.cell (j:=5) rfl
       have t6:=hRV.cell (j:=6) rfl
       have t7:=hRV.cell (j:=7) rfl
       have q2:=idx_own (RB+1) j j hjk
       have KA:Hid (∀w',Below w6.heap.size w6 w'→Calls Tryz.prog 101 #[.pointer (some ⟨BB,0,none⟩),.agg #[.int .i64 (nth v 0),.int .i64 (nth v 1),.int .i64 (nth v 2),.int .i64 (nth v 3),.int .i64 (nth v 4),.int .i64 (nth v 5),.int .i64 (nth v 6),.int .i64 (nth v 7)]] w' (fun e W'=>e=.returned (.int .i64 (idxV (layV (fun q=>seenV r j (m+1) q prev) tm j2).1 v:Nat))∧BEnd B BB MB (j:Int) w' vv2 (addV (layV (fun q=>seenV r j (m+1) q prev) tm j2).1 v) W')):=Lib.hid fun w' hw=>add_calls (HP3.out.st.ext hw) hvk (Nat.le_trans hB5 (HP3.out.ext hB5 hw).size) (by
        have:=layV_size (fun q=>seenV r j (m+1) q prev) tm j2
        have:=HOL.out.2.1
        have hkm:j * (m+1)≤5 * 7:=Nat.mul_le_mul (by omega) (by omega)
        omega)
       have FIN:=Lib.hid fun (w2 w3:World) (hw:Below w6.heap.size w6 w2) (he:BEnd B BB MB (j:Int) w2 vv2 (addV (layV (fun q=>seenV r j (m+1) q prev) tm j2).1 v) w3)=>lay_step hB5 (show B≤RB+1 by omega) HP3.out HR3.out HQ3.out hjk hw (show v=(fun q=>seenV r j (m+1) q prev) j2 from hv) he
       obtain ⟨ix,hix⟩:∃ix,ix=idxV (layV (fun q=>seenV r j (m+1) q prev) tm j2).1 v:=⟨_,rfl⟩
       rw[←hix]at KA FIN
       clear hix hRV hv hvk HRV HP3 HR3 HQ3
       go_wp2_with fail
       refine (KA.out _ hb).mono ?_
       rintro _ w10 ⟨rfl,he⟩
       obtain ⟨vv3,G0,G3,G4,G5,G1,G6,G7⟩:=FIN.out _ _ hb he
       have G1:=Lib.hid G1
       have G6:=Lib.hid G6
       have G7:=Lib.hid G7
       clear FIN KA he G0 t0 t1 t2 t3 t4 t5 t6 t7 hVl
       go_wp2
       go_roundw
       case rel=>exact ⟨j2+1,vv3,by omega,by go_num,G1,G6,G7⟩
       case measure=>simp[intOf];omega
      obtain ⟨hGw,hRw⟩:=HK5.out wr (HP3.out.ext hB5 hb).ag
      have hpl:=HOL.out.2.2.1
      obtain ⟨y,hy⟩:∃y,y=nth prev j:=⟨_,rfl⟩
      have t1:=hGw.cell (j:=j) (u:=.int .i64 y) (by rw[List.getElem?_map,get?_nth (by omega),hy];rfl)
      have t2:=hRw.cell (j:=1+j2) (u:=.int .i64 a) (by rw[←ha];have h5:=five (show j2<5 by omega);rcases h5 with rfl | rfl | rfl | rfl | rfl<;>rfl)
      have q1:=idx_own g k k hjl
      have q2:=idx_five RB (show j2<5 by omega)
      have q3:=idx_arr VB 3 (show j<5 by omega)
      have hl1:=hGw.lt
      have hl2:=hRw.lt
      have hl3:=HRV.out.lt
      have f3:=HRV.out.free (3+j)
      have hst:=seenV_next (g:=r) (j:=j) (k:=m+1) (p:=j2) (prev:=prev) (by omega)
      rw[ha,Int.toNat_natCast]at hst
      have BI:=bit_nat a j
      by_cases hbt:a.testBit j=true
      ·rw[hbt]at BI
       rw[if_pos hbt,←hy]at hst
       have d3:∃u,wr.cell? ⟨VB,3+j,none⟩=some u:=by
        obtain ⟨u,hu⟩:∃u,((seenV r j (m+1) j2 prev).map (Value.int .i64))[3+j]? =some u:=⟨_,List.getElem?_eq_getElem (by unfold seenV;simp;omega)⟩
        exact ⟨u,HRV.out.cell hu⟩
       obtain ⟨u3,d3⟩:=d3
       have NX:Hid (Below w6.heap.size w6 (wr.setCell ⟨VB,3+j,none⟩ (.int .i64 y))∧Row (wr.setCell ⟨VB,3+j,none⟩ (.int .i64 y)) VB 147 ((seenV r (j+1) (m+1) j2 prev).map (Value.int .i64))):=Lib.hid ⟨hb.setCell (by simpa using hs8) _,by rw[←hst,List.map_set];exact HRV.out.set _ _⟩
       clear hst hbt hy ha hGw hRw HRV hb
       go_wp2
       go_roundw
       case rel=>exact ⟨j+1,by omega,by go_num,NX.out.1,Lib.hid NX.out.2⟩
       case measure=>simp[intOf];omega
      ·have hbf:a.testBit j=false:=by simpa using hbt
       rw[hbf]at BI
       rw[if_neg hbt]at hst
       have NX:Hid (Row wr VB 147 ((seenV r (j+1) (m+1) j2 prev).map (Value.int .i64))):=Lib.hid (by rw[←hst];exact HRV.out)
       clear hst hbt hbf hy ha hGw hRw HRV
       go_wp2
       go_roundw
       case rel=>exact ⟨j+1,by omega,by go_num,hb,NX⟩
       case measure=>simp[intOf];omega
  have q1:=idx_one (P:=Tryz.prog) (S:=S) (w:=wr) Tryz.underlying44 hi hz1 (a:=ia) (n:=inn.length) (cap:=ic) (HIA.out.agree (HPE.out.ag.mono HLOW.out)) k (by have:=HLEN.out;omega)
  have q2:=idx_own NB N N hlt
  obtain ⟨x,hx⟩:∃x,x=nth inn k:=⟨_,rfl⟩
  have hkl:k<inn.length:=by have:=HLEN.out;omega
  have hxw:WF x:=by rw[hx];exact HWF.out _ (nth_mem hkl)
  have CX:Hid (∀w',Agree (fun b=>keepsB BB MB vv b∧b≠NB) W w'→w'.cell? (adr ia k)=some (.int .i64 x)):=Lib.hid fun w' hw=>by
   have:=ints_cells (HI.out.agree (hw.mono HLOW.out)) (.refl _ _) k hkl
   rw[this,List.getD_eq_getElem?_getD,List.getElem?_map,get?_nth hkl,hx];rfl
  have hBNB:B≤NB:=by rw[HNB.out];exact hB
  have hvx:firstV k x=(fun q=>firstV q (nth inn q)) k:=by rw[hx]
  have KEEP:Hid (∀w',Below wr.heap.size wr w'→w'.cell? (adr ia k)=some (.int .i64 x)):=Lib.hid fun w' hw=>CX.out w' (HPE.out.ext hB hw).ag
  have KA:Hid (∀w',Below wr.heap.size wr w'→Calls Tryz.prog 101 #[.pointer (some ⟨BB,0,none⟩),.agg #[.int .i64 k,.int .i64 0,.int .i64 x,.int .i64 (-1),.int .i64 (-1),.int .i64 (-1),.int .i64 (-1),.int .i64 (-1)]] w' (fun e W'=>e=.returned (.int .i64 (idxV (layV (fun q=>firstV q (nth inn q)) tab k).1 (firstV k x):Nat))∧BEnd B BB MB (N:Int) w' vv1 (addV (layV (fun q=>firstV q (nth inn q)) tab k).1 (firstV k x)) W')):=Lib.hid fun w' hw=>add_calls (HPE.out.st.ext hw) (firstV_ok hxw (by omega)) (Nat.le_trans hB (HPE.out.ext hB hw).size) (by have:=layV_size (fun q=>firstV q (nth inn q)) tab k;omega)
  have FIN:Hid (∀w2 w3,Below wr.heap.size wr w2→BEnd B BB MB (N:Int) w2 vv1 (addV (layV (fun q=>firstV q (nth inn q)) tab k).1 (firstV k x)) w3→∃vv3,w3.cell? (adr ia k)=some (.int .i64 x)∧w3.cell? ⟨NB,k,none⟩=some (.int .i64 0)∧w3.frozen? ⟨NB,k,none⟩=false∧NB<w3.heap.size∧
   PE B BB MB (N:Int) NB W vv (w3.setCell ⟨NB,k,none⟩ (.int .i64 (idxV (layV (fun q=>firstV q (nth inn q)) tab k).1 (firstV k x):Nat))) vv3 (layV (fun q=>firstV q (nth inn q)) tab (k+1)).1∧Row (w3.setCell ⟨NB,k,none⟩ (.int .i64 (idxV (layV (fun q=>firstV q (nth inn q)) tab k).1 (firstV k x):Nat))) NB 3 (layR (fun q=>firstV q (nth inn q)) tab N (k+1))∧PR NB BB MB (w3.setCell ⟨NB,k,none⟩ (.int .i64 (idxV (layV (fun q=>firstV q (nth inn q)) tab k).1 (firstV k x):Nat))) vv3 NB):=Lib.hid fun w2 w3 hw he=>by
   obtain ⟨vv3,r1,r⟩:=lay_step hB hBNB HPE.out HRN.out HPR.out hlt hw hvx he
   exact ⟨vv3,CX.out w3 r1,r⟩
  have hil:=HLEN.out
  rw[hil]at q1
  clear hil hx hvx hkl hxw CX HPE HRN HPR
  obtain ⟨ix,hix⟩:∃ix,ix=idxV (layV (fun q=>firstV q (nth inn q)) tab k).1 (firstV k x):=⟨_,rfl⟩
  rw[←hix]at KA FIN
  clear hix
  go_wp2
  refine region_E (fun w':World=>w'.cell? (adr ia k)=some (.int .i64 x)) (fun i=>i==12) (by kernel_rfl) ?_ (fun hHeld=>?_)
  ·exact KEEP.out _ (drewN_below _ _ 1)
  refine anyE_take 0 (v:=?_) rfl (by kernel_rfl) (fun _ _ _ h=>h) (by rfl) ?hy0 hHeld ?rest0
  case hy0=>(intro w hSw;(try dsimp only at hSw);go_simp;try with_reducible rfl)
  try simp only[Act.put,zsa,zsz,zss]
  refine anyE_take 1 (v:=?_) rfl (by kernel_rfl) (fun _ _ _ h=>h) (by rfl) ?hy1 hHeld ?rest1
  case hy1=>(intro w hSw;(try dsimp only at hSw);go_simp;try with_reducible rfl)
  try simp only[Act.put,zsa,zsz,zss]
  refine anyE_take 2 (v:=?_) rfl (by kernel_rfl) (fun _ _ _ h=>h) (by rfl) ?hy2 hHeld ?rest2
  case hy2=>(intro w hSw;(try dsimp only at hSw);go_simp;try with_reducible rfl)
  try simp only[Act.put,zsa,zsz,zss]
  refine anyE_take 3 (v:=?_) rfl (by kernel_rfl) (fun _ _ _ h=>h) (by rfl) ?hy3 hHeld ?rest3
  case hy3=>(intro w hSw;(try dsimp only at hSw);go_simp;try with_reducible rfl)
  try simp only[Act.put,zsa,zsz,zss]
  refine anyE_take 4 (v:=?_) rfl (by kernel_rfl) (fun _ _ _ h=>h) (by rfl) ?hy4 hHeld ?rest4
  case hy4=>(intro w hSw;(try dsimp only at hSw);go_simp;try with_reducible rfl)
  try simp only[Act.put,zsa,zsz,zss]
  refine anyE_take 5 (v:=?_) rfl (by kernel_rfl) (fun _ _ _ h=>h) (by rfl) ?hy5 hHeld ?rest5
  case hy5=>(intro w hSw;(try dsimp only at hSw);go_simp;try with_reducible rfl)
  try simp only[Act.put,zsa,zsz,zss]
  refine anyE_take 6 (v:=?_) rfl (by kernel_rfl) (fun _ _ _ h=>h) (by rfl) ?hy6 hHeld ?rest6
  case hy6=>(intro w hSw;(try dsimp only at hSw);go_simp;try with_reducible rfl)
  try simp only[Act.put,zsa,zsz,zss]
  refine anyE_take 7 (v:=?_) rfl (by kernel_rfl) (fun _ _ _ h=>h) (by rfl) ?hy7 hHeld ?rest7
  case hy7=>(intro w hSw;(try dsimp only at hSw);go_simp;try with_reducible rfl)
  try simp only[Act.put,zsa,zsz,zss]
  refine anyE_one 8 rfl (by kernel_rfl) (fun K hK=>?_)
  go_simp;go_at_call 102;refine (silence_calls _).mono ?_;rintro _ w2 ⟨_,rfl,hb2,rfl⟩;have y2:=ext_trans (drewN_below _ _ 1) hb2;clear hb2
  refine hK.out _ _ (fun _=>KEEP.out _ y2) (fun hHeld=>?_);replace hHeld:=hHeld rfl
  clear hK K
  try simp only[Act.put,zsa,zsz,zss]
  refine anyE_take 9 (v:=?_) rfl (by kernel_rfl) (fun _ _ _ h=>h) (by rfl) ?hy9 hHeld ?rest9
  case hy9=>(intro w hSw;(try dsimp only at hSw);go_simp;try with_reducible rfl)
  try simp only[Act.put,zsa,zsz,zss]
  refine anyE_one 10 rfl (by kernel_rfl) (fun K hK=>?_)
  go_simp;go_at_call 101;refine (KA.out w2 y2).mono ?_;rintro _ w3 ⟨rfl,he⟩;obtain ⟨vv3,G2,G3,G4,G5,G1,G6,G7⟩:=FIN.out w2 w3 y2 he;have G1:=Lib.hid G1;have G6:=Lib.hid G6;have G7:=Lib.hid G7;clear he
  refine hK.out _ _ (fun _=>G2) (fun hHeld=>?_);replace hHeld:=hHeld rfl
  clear hK K
  try simp only[Act.put,zsa,zsz,zss]
  refine anyE_take 11 (v:=?_) rfl (by kernel_rfl) (fun _ _ _ h=>h) (by rfl) ?hy11 hHeld ?rest11
  case hy11=>(intro w hSw;(try dsimp only at hSw);go_simp;try with_reducible rfl)
  try simp only[Act.put,zsa,zsz,zss]
  refine anyE_one 12 rfl (by kernel_rfl) (fun K hK=>?_)
  go_simp
  refine hK.out _ _ (fun h=>by simp at h) (fun hHeld=>?_)
  clear hK K
  try simp only[Act.put,zsa,zsz,zss]
  refine anyE_done (by kernel_rfl) ?_ _
  clear hHeld KEEP KA FIN
  go_wp2
  go_roundw
  case rel=>exact ⟨k+1,vv3,by omega,by go_num,G1,G6,G7⟩
  case measure=>simp[intOf];omega
end Go.Proofs.YtaijafjfafbcfaaGreat
