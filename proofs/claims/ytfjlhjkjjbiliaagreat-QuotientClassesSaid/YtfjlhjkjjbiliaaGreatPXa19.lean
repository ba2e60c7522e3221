/- Part of the proof that the laws answer true for every input. -/
import Derived.Test.YtfjlhjkjjbiliaaGreatPXa18
import Derived.RangeFuncWrites
set_option linter.unusedSimpArgs false
set_option linter.unnecessarySimpa false
set_option linter.unusedVariables false
set_option maxRecDepth 100000
set_option maxHeartbeats 40000000
namespace Go.Proofs.YtfjlhjkjjbiliaaGreat
open Go.RowKit Go.Maps
attribute [local go_sem ↓] Go.wp_at_zero Go.wp_at_succ
structure PlayH (B BB MB:Nat) (N:Nat) (W:World) (vv:Value) (tab:List (List Int)) (S:Nat→Prop) (inn:List Int) (word:List (List Int)):Prop where
 st:BSt B BB MB (N:Int) W vv tab
 n1:1≤N
 n5:N≤5
 hB:B≤W.heap.size
 len:inn.length=N
 low:∀b,S b→b<B
 bit:∀r∈word,∀q,q<5→0≤nth r (q+1)∧nth r (q+1)<32
 few:word.length≤6
 room:tab.length≤90000
theorem zcC {B BB MB:Nat} {N:Nat} {W:World} {vv vin vw:Value} {tab:List (List Int)} {S:Nat→Prop} {inn:List Int} {word:List (List Int)} (h:PlayH B BB MB N W vv tab S inn word) (hin:Ints S W vin inn) (hwd:Sl (kFlat 7) S W vw word):
  Calls Tryz.prog 75 #[.pointer (some ⟨BB,0,none⟩),vin,vw] W (fun e W'=>∃rv vv',e=.returned rv∧PE B BB MB (N:Int) W.heap.size W vv W' vv' (playV N inn word tab word.length).1∧Lists (PR W.heap.size BB MB W' vv') W' rv (playV N inn word tab word.length).2):=by
 obtain ⟨ia,ic,rfl,iad,_⟩:=hin.form
 obtain ⟨wa,wc,rfl,wad,_⟩:=hwd.form2
 obtain ⟨i0,hi,hz0,hz1,hz2⟩:=info_parts zD
 obtain ⟨hst,hn1,hn5,hB,hlen,hlow,hbit,hfew,hroom⟩:=h
 have HS:=zhd hst
 have HI:=zhd hin
 have HW:=zhd hwd
 have HIA:=zhd iad
 have HBIT:=zhd hbit
 have HWF:=zhd hin.wf
 have HLEN:=zhd hlen
 have HNB0:=hst.bm
 have b0:=hst.row.zc 0 rfl
 have hBBl:=hst.row.lt
 obtain ⟨NB,hNB⟩:∃NB,NB=W.heap.size:=⟨_,rfl⟩
 have HLOW:Hid (∀b,S b→keepsB BB MB vv b∧b≠NB):=zhd fun b hb=>⟨hst.low (hlow b hb),by have:=hlow b hb;omega⟩
 clear hst hin hwd hbit hlow iad wad
 go_enter Tryz.func75,Tryz.ntmps75
 go_wp2_with (at_make;refine wpList_make_full _ rfl _ _ 36 rfl W.heap.size 3 i0 (.int .i64 0) 1 Tryz.underlying36 hi hz0 hz1 .i64 .i64 _ _ N rfl rfl rfl rfl (by rw[hz2];omega) (by unfold maxLen;omega) (Nat.le_refl _) ?_;intro w1 hown1 hgrow1;have hbw:Below W.heap.size W w1:=(Below.refl _ W).grown hgrow1 (Nat.le_refl _) (fun j hj=>by cases hj);have hmc:(madeCells #[Value.int .i64 0] (N * 1)).toList=layR (fun q=>firstV q (nth inn q)) tab N 0:=(by rw[Nat.mul_one,X5,List.map_replicate];exact (toList_madeCells_one _ _));have RN:=(Row.of_own hown1).1.get hmc)
 have hs1:NB<w1.heap.size:=by rw[hNB];exact RN.lt
 have HPE:Hid (PE B BB MB (N:Int) NB W vv w1 vv tab):=zhd ((PE.start HS.out).ext hB hbw)
 have HPR:Hid (PR NB BB MB w1 vv NB):=zhd ⟨Nat.le_refl _,hs1,HS.out.fresh (by omega)⟩
 rw[←hNB]at RN hbw ⊢
 have HNB:=zhd hNB
 clear hNB hown1 hgrow1 hmc hs1 b0 hBBl
 go_loopw [8,24] (fun _ i wr=>∃(k:Nat) (vv':Value),k≤N∧i=.int .i64 k∧Hid (PE B BB MB (N:Int) NB W vv wr vv' (layV (fun q=>firstV q (nth inn q)) tab k).1)∧Hid (Row wr NB 3 (layR (fun q=>firstV q (nth inn q)) tab N k))∧Hid (PR NB BB MB wr vv' NB)) (fun _ i _=>N - (intOf i).toNat)
 case atStart=>exact ⟨0,vv,Nat.zero_le _,rfl,HPE,zhd RN,HPR⟩
 case round=>
  clear HPE RN HPR hbw
  obtain ⟨k,vv1,hk,rfl,HPE,HRN,HPR⟩:=hrel
  by_cases hlt:k<N
  case neg=>
   obtain rfl:k=N:=by omega
   have P0:=HPE.out
   have hR0:=HRN.out
   rw[XV]at hR0
   have hLl:=zZ (fun q=>firstV q (nth inn q)) tab k
   have hLw:∀x∈(layV (fun q=>firstV q (nth inn q)) tab k).2,WF x:=fun x hx=>by have:=yE (fun q=>firstV q (nth inn q)) (Nat.le_refl _) k x hx;exact WF.small (by omega)
   have RO:=zh wr [.slice (some ⟨NB,0,none⟩) k k] 36
   have hNw:=HPR.out.2.1
   have Pa:=HPR.out.same (ze wr (.cells #[.slice (some ⟨NB,0,none⟩) k k] 36)).size
   have HO:Hid (OwnK kInts 36 NB (PR NB BB MB (wr.alloc (.cells #[.slice (some ⟨NB,0,none⟩) k k] 36)) vv1) (wr.alloc (.cells #[.slice (some ⟨NB,0,none⟩) k k] 36)) (.slice (some ⟨wr.heap.size,0,none⟩) 1 1) [(layV (fun q=>firstV q (nth inn q)) tab k).2]):=zhd (zf2 RO (by omega) (zbW (hR0.alloc _) hLl (by omega) hLw ⟨Pa,by omega⟩))
   have HOO:Hid (PR NB BB MB (wr.alloc (.cells #[.slice (some ⟨NB,0,none⟩) k k] 36)) vv1 wr.heap.size):=zhd ⟨by omega,by simp,P0.st.fresh (Nat.le_refl _)⟩
   have HG:Hid (Row (wr.alloc (.cells #[.slice (some ⟨NB,0,none⟩) k k] 36)) NB 3 ((layV (fun q=>firstV q (nth inn q)) tab k).2.map (Value.int .i64))∧PR NB BB MB (wr.alloc (.cells #[.slice (some ⟨NB,0,none⟩) k k] 36)) vv1 NB):=zhd ⟨hR0.alloc _,Pa⟩
   have HP1:Hid (PE B BB MB (k:Int) NB W vv (wr.alloc (.cells #[.slice (some ⟨NB,0,none⟩) k k] 36)) vv1 (playV k inn word tab 0).1):=zhd (P0.ext hB (ze _ _))
   clear P0 hR0 hLl hLw RO hNw Pa HPE HRN HPR hlt hk
   go_wp2
   obtain ⟨OB,hOB⟩:∃OB,OB=wr.heap.size:=⟨_,rfl⟩
   obtain ⟨w4,hw4⟩:∃w4,w4=wr.alloc (.cells #[.slice (some ⟨NB,0,none⟩) k k] 36):=⟨_,rfl⟩
   rw[←hOB]at HO HOO
   rw[←hOB]
   rw[←hw4]at HO HOO HG HP1
   rw[←hw4]
   clear hOB hw4
   go_loopw [7,9,10,11,12,13,14,15,16,44,56,66] (fun nv ov _ _ _ _ _ _ _ i _ _ wr=>∃(m:Nat) (vv':Value) (g:Nat) (oa:Option Addr) (oc:Nat),m≤word.length∧i=.int .i64 m∧nv=.slice (some ⟨g,0,none⟩) k k∧ov=.slice oa (m+1) oc∧Hid (PE B BB MB (k:Int) NB W vv wr vv' (playV k inn word tab m).1)∧Hid (Row wr g 3 ((nthL (playV k inn word tab m).2 m).map (Value.int .i64))∧PR NB BB MB wr vv' g)∧Hid (OwnK kInts 36 NB (PR NB BB MB wr vv') wr (.slice oa (m+1) oc) (playV k inn word tab m).2)∧Hid (∀q,(Value.slice oa (m+1) oc).ownBlock=some q→PR NB BB MB wr vv' q)) (fun _ _ _ _ _ _ _ _ _ i _ _ _=>word.length - (intOf i).toNat)
   case atStart=>exact ⟨0,vv1,NB,some ⟨OB,0,none⟩,1,Nat.zero_le _,rfl,rfl,rfl,HP1,HG,HO,zhd fun q hq=>by have:OB=q:=(by simpa[Value.ownBlock] using hq);rw[←this];exact HOO.out⟩
   case round=>
    clear HO HOO HG HP1
    obtain ⟨m,vv1,g,oa,oc,hm,rfl,rfl,rfl,HP,HG,HO,HOO⟩:=hrel
    by_cases hmt:m<word.length
    case neg=>
     obtain rfl:m=word.length:=by omega
     go_wp2
     go_ret
     rw[←HNB.out]
     exact ⟨_,vv1,rfl,HP.out,Lists.of_sl (HO.out.slS (by rw[yZ];omega) HOO.out)⟩
    obtain ⟨r,hr⟩:∃r,r=nthL word m:=⟨_,rfl⟩
    have HRR:=zhd hr
    have qw:=(Z4 (HW.out.ad.1.agree (HP.out.ag.mono HLOW.out)) m hmt)
    obtain ⟨hw0,hw7⟩:=(HW.out.agree (HP.out.ag.mono HLOW.out)).nums hmt (by decide)
    rw[←hr]at hw0 hw7
    have c1:=hw7 1 (by decide)
    have c2:=hw7 2 (by decide)
    have c3:=hw7 3 (by decide)
    have c4:=hw7 4 (by decide)
    have c5:=hw7 5 (by decide)
    have c6:=hw7 6 (by decide)
    have HBR:Hid (∀q,q<5→0≤nth r (q+1)∧nth r (q+1)<32):=zhd (by rw[hr];exact HBIT.out _ (yj hmt))
    have hNw:NB≤wr.heap.size:=by have:=HG.out.2.2.1;have:=HG.out.2.1;omega
    have HRB0:Hid (Row (wr.alloc (.cells #[.int .i64 (nth r 0),.int .i64 (nth r 1),.int .i64 (nth r 2),.int .i64 (nth r 3),.int .i64 (nth r 4),.int .i64 (nth r 5),.int .i64 (nth r 6)] 116)) wr.heap.size 116 [.int .i64 (nth r 0),.int .i64 (nth r 1),.int .i64 (nth r 2),.int .i64 (nth r 3),.int .i64 (nth r 4),.int .i64 (nth r 5),.int .i64 (nth r 6)]):=zhd (zh _ [_,_,_,_,_,_,_] _)
    have b0:=(HP.out.st.row.alloc (.cells #[.int .i64 (nth r 0),.int .i64 (nth r 1),.int .i64 (nth r 2),.int .i64 (nth r 3),.int .i64 (nth r 4),.int .i64 (nth r 5),.int .i64 (nth r 6)] 116)).zc 0 rfl
    have hBl:=HP.out.st.row.lt
    clear hw7 hr
    go_wp2_with (at_make;refine wpList_make_full _ rfl _ _ 36 rfl (wr.heap.size+1) 3 i0 (.int .i64 0) 1 Tryz.underlying36 hi hz0 hz1 .i64 .i64 _ _ k rfl rfl rfl rfl (by rw[hz2];omega) (by unfold maxLen;omega) (by simp) ?_;intro w5 hown5 hgrow5;clear b0 qw c1 c2 c3 c4 c5 c6 hw0)
    have hb5:Below wr.heap.size wr w5:=((Below.refl _ wr).alloc (Nat.le_refl _) _).grown hgrow5 (by simp) (fun j hj=>by cases hj)
    have hb5':Below (wr.heap.size+1) (wr.alloc (.cells #[.int .i64 (nth r 0),.int .i64 (nth r 1),.int .i64 (nth r 2),.int .i64 (nth r 3),.int .i64 (nth r 4),.int .i64 (nth r 5),.int .i64 (nth r 6)] 116)) w5:=(Below.refl _ _).grown hgrow5 (by simp) (fun j hj=>by cases hj)
    obtain ⟨prev,hprev⟩:∃prev,prev=nthL (playV k inn word tab m).2 m:=⟨_,rfl⟩
    obtain ⟨tm,htm⟩:∃tm,tm=(playV k inn word tab m).1:=⟨_,rfl⟩
    obtain ⟨outl,hol⟩:∃outl,outl=(playV k inn word tab m).2:=⟨_,rfl⟩
    have HEND:Hid ((playV k inn word tab (m+1)).1=(layV (fun q=>seenV r k (m+1) q prev) tm k).1∧(playV k inn word tab (m+1)).2=outl++[(layV (fun q=>seenV r k (m+1) q prev) tm k).2]∧nthL (playV k inn word tab (m+1)).2 (m+1)=(layV (fun q=>seenV r k (m+1) q prev) tm k).2):=zhd (by
     have e2:(playV k inn word tab (m+1)).2=outl++[(layV (fun q=>seenV r k (m+1) q prev) tm k).2]:=by rw[hol,htm,hprev,HRR.out];rfl
     refine ⟨by rw[htm,hprev,HRR.out];rfl,e2,?_⟩
     rw[e2]
     have hol2:outl.length=m+1:=by rw[hol,yZ]
     unfold nthL
     rw[←hol2,List.getD_eq_getElem?_getD,List.getElem?_append_right (Nat.le_refl _),Nat.sub_self];rfl)
    have HOL:Hid (outl.length=m+1∧tm.length≤90000+k * (m+1)∧prev.length=k∧∀x∈prev,WF x):=zhd (by
     have hb:=qH k inn word (Nat.le_refl tab.length) m prev (by rw[hprev];exact yj (by rw[yZ];omega))
     have hsz:=yC k inn word tab m
     have hkm:k * (m+1)≤5 * 7:=Nat.mul_le_mul (by omega) (by omega)
     have e3:(k:Int) * ((m:Int)+1)=((k * (m+1):Nat):Int):=by simp
     refine ⟨by rw[hol,yZ],by rw[htm];omega,hb.1,fun x hx=>?_⟩
     have:=hb.2 x hx
     exact WF.small (by omega))
    rw[←htm]at HP
    rw[←hprev]at HG
    rw[←hol]at HO
    have hmc:(madeCells #[Value.int .i64 0] (k * 1)).toList=layR (fun q=>seenV r k (m+1) q prev) tm k 0:=(by rw[Nat.mul_one,X5,List.map_replicate];exact (toList_madeCells_one _ _))
    have RX:=(Row.of_own hown5).1.get hmc
    rw[World.size_alloc]at RX
    obtain ⟨RB,hRB⟩:∃RB,RB=wr.heap.size:=⟨_,rfl⟩
    have hs5:RB+1<w5.heap.size:=by rw[hRB];exact RX.lt
    have HST5:Hid (PE B BB MB (k:Int) (RB+1) w5 vv1 w5 vv1 (layV (fun q=>seenV r k (m+1) q prev) tm 0).1):=zhd (PE.start (HP.out.st.ext hb5))
    have HPX:Hid (PR NB BB MB w5 vv1 (RB+1)):=zhd ⟨by omega,hs5,HP.out.st.fresh (by omega)⟩
    have hgl:=HG.out.2.2.1
    have HK5:Hid (∀w',Agree (fun b=>keepsB BB MB vv1 b∧b≠RB+1) w5 w'→Row w' g 3 (prev.map (Value.int .i64))∧Row w' RB 116 [.int .i64 (nth r 0),.int .i64 (nth r 1),.int .i64 (nth r 2),.int .i64 (nth r 3),.int .i64 (nth r 4),.int .i64 (nth r 5),.int .i64 (nth r 6)]):=zhd fun w' hA=>⟨(HG.out.1.ext hb5).agree hA ⟨HG.out.2.2.2,by omega⟩,(by rw[hRB];exact ((HRB0.out.agree (S:=fun b=>b=wr.heap.size) (.of_below hb5' fun b hb _=>by omega) rfl).agree hA ⟨HP.out.st.fresh (Nat.le_refl _),by omega⟩))⟩
    have HO5:Hid (OwnK kInts 36 NB (PR NB BB MB wr vv1) w5 (.slice oa (m+1) oc) outl):=zhd (HO.out.ext hb5)
    have HP5:Hid (PE B BB MB (k:Int) NB W vv w5 vv1 tm):=zhd (HP.out.ext hB hb5)
    have HN5:Hid (∀w' vv',w5.heap.size≤w'.heap.size→(∀q,vv'.ownBlock=some q→vv1.ownBlock=some q∨w5.heap.size≤q)→∀b,PR NB BB MB wr vv1 b→PR NB BB MB w' vv' b):=zhd fun w' vv' h1 h2 b hb=>(hb.same hb5.size).next h1 h2
    have hB5:B≤w5.heap.size:=Nat.le_trans hB HP5.out.size
    have hNB5:NB≤RB:=by omega
    have HOB:Hid (∀q,(Value.slice oa (m+1) oc).ownBlock=some q→PR NB BB MB wr vv1 q∧q≠RB+1):=zhd fun q hq=>⟨HOO.out q hq,by have:=(HOO.out q hq).2.1;omega⟩
    have HPRX:Hid (∀b,PR NB BB MB wr vv1 b→keepsB BB MB vv1 b∧b≠RB+1):=zhd fun b hb=>⟨hb.2.2,by have:=hb.2.1;omega⟩
    have hBN:B≤NB:=by rw[HNB.out];exact hB
    rw[←hRB]
    rw[←hRB]at RX
    clear hmc hown5 hgrow5 hb5 hb5' hprev htm hol HP HG HO HOO HRB0 hNw hBl hgl hRB
    go_wp2
    go_loopw [13,14,15,16,56,66] (fun _ _ _ _ i _ wr=>∃(j2:Nat) (vv':Value),j2≤k∧i=.int .i64 j2∧Hid (PE B BB MB (k:Int) (RB+1) w5 vv1 wr vv' (layV (fun q=>seenV r k (m+1) q prev) tm j2).1)∧Hid (Row wr (RB+1) 3 (layR (fun q=>seenV r k (m+1) q prev) tm k j2))∧Hid (PR NB BB MB wr vv' (RB+1))) (fun _ _ _ _ i _ _=>k - (intOf i).toNat)
    case atStart=>exact ⟨0,vv1,Nat.zero_le _,rfl,HST5,zhd RX,HPX⟩
    case round=>
     clear HST5 RX HPX hs5
     obtain ⟨j2,vv2,hj,rfl,HP3,HR3,HQ3⟩:=hrel
     obtain ⟨w6,rfl⟩:∃w6:World,w6=wr:=⟨_,rfl⟩
     by_cases hjk:j2<k
     case neg=>
      obtain rfl:j2=k:=by omega
      have hR6:=HR3.out
      rw[XV]at hR6
      have hLl:=zZ (fun q=>seenV r j2 (m+1) q prev) tm j2
      have hLw:∀x∈(layV (fun q=>seenV r j2 (m+1) q prev) tm j2).2,WF x:=fun x hx=>by
       have:=yE (fun q=>seenV r j2 (m+1) q prev) HOL.out.2.1 j2 x hx
       have hkm:j2 * (m+1)≤5 * 7:=Nat.mul_le_mul (by omega) (by omega)
       exact WF.small (by omega)
      have H1:=HN5.out w6 vv2 HP3.out.size HP3.out.og
      have HOw:Hid (OwnK kInts 36 NB (PR NB BB MB w6 vv2) w6 (.slice oa (m+1) oc) outl):=zhd (HO5.out.slot HP3.out.ag (fun q hq=>⟨(HOB.out q hq).1.2.2,(HOB.out q hq).2⟩) HPRX.out H1)
      have HRD:Hid (kInts.rd (fun b=>PR NB BB MB w6 vv2 b∧(Value.slice oa (m+1) oc).ownBlock≠some b) w6 [.slice (some ⟨RB+1,0,none⟩) j2 j2] (layV (fun q=>seenV r j2 (m+1) q prev) tm j2).2):=zhd (zbW hR6 hLl (by omega) hLw ⟨HQ3.out,fun e=>(HOB.out _ e).2 rfl⟩)
      have hol2:=HOL.out.1
      have hb6:NB≤w6.heap.size:=by have:=HQ3.out.2.1;omega
      have FIN:Hid (∀g7 c7 w7,OwnK kInts 36 NB (PR NB BB MB w6 vv2) w7 (.slice (some ⟨g7,0,none⟩) (m+1+1) c7) (outl++[(layV (fun q=>seenV r j2 (m+1) q prev) tm j2).2])→Below NB w6 w7→(∀S:Nat→Prop,(∀q,(Value.slice oa (m+1) oc).ownBlock=some q→¬S q)→Agree S w6 w7)→((Value.slice oa (m+1) oc).ownBlock=some g7∨w6.heap.size≤g7)→
        PE B BB MB (j2:Int) NB W vv w7 vv2 (playV j2 inn word tab (m+1)).1∧(Row w7 (RB+1) 3 ((nthL (playV j2 inn word tab (m+1)).2 (m+1)).map (Value.int .i64))∧PR NB BB MB w7 vv2 (RB+1))∧OwnK kInts 36 NB (PR NB BB MB w7 vv2) w7 (.slice (some ⟨g7,0,none⟩) (m+1+1) c7) (playV j2 inn word tab (m+1)).2∧∀q,(Value.slice (some ⟨g7,0,none⟩) (m+1+1) c7).ownBlock=some q→PR NB BB MB w7 vv2 q):=zhd fun g7 c7 w7 h1 h2 h3 h4=>by
       rw[HEND.out.2.2,HEND.out.1,HEND.out.2.1]
       have hOw:∀q,(Value.slice oa (m+1) oc).ownBlock=some q→PR NB BB MB w6 vv2 q:=fun q hq=>H1 q (HOB.out q hq).1
       have hA:=h3 (fun b=>(Value.slice oa (m+1) oc).ownBlock≠some b) fun q hq h=>h hq
       have hT:∀b,keepsB BB MB vv2 b∨True→True:=fun _ _=>trivial
       have hP6:=HP5.out.trans HP3.out (by rw[←HNB.out];omega)
       refine ⟨hP6.move hA (h2.mono hBN) (fun e=>(hOw _ e).2.2.1 rfl) (fun e=>(hOw _ e).2.2.2.1 rfl) (fun q hq e=>(hOw _ e).2.2.2.2 hq) (fun b hb _ e=>by have:=(hOw _ e).1;rw[HNB.out]at this;omega),⟨hR6.agree hA fun e=>(HOB.out _ e).2 rfl,HQ3.out.same hA.size⟩,h1.mono fun b hb=>hb.same hA.size,fun q hq=>?_⟩
       have:g7=q:=by simpa[Value.ownBlock] using hq
       subst this
       rcases h4 with e | e
       ·exact (hOw _ e).same hA.size
       ·refine ⟨by omega,?_,hP6.st.fresh e⟩
        rcases h1 with ⟨xs,ho,_⟩
        rcases ho.2 with ⟨e0,_⟩ | ⟨g',_,_,e0,_,hg,_⟩
        ·cases e0
        ·injection e0 with e1;injection e1 with e1;injection e1 with e1;rw[e1];exact (Array.getElem?_eq_some_iff.1 hg).1
      have hby:(outl.length+1) * 24≤140737488355328:=by omega
      have hbn:outl.length<9223372036854775807:=by omega
      clear hR6 hLl hLw H1 HR3 HP3 HQ3 HEND HOL
      go_wp2_with (at_builtin;refine yz (K:=kInts) (w:=w6) (S:=PR NB BB MB w6 vv2) (base:=NB) (v:=.slice oa (m+1) oc) (l:=outl) rfl (.tmp 92) (.tmp 94) 109 rfl 36 _ 24 Tryz.underlying109 zK rfl (by decide) rfl HOw.out (cs:=[.slice (some ⟨RB+1,0,none⟩) j2 j2]) rfl HRD.out hby hbn hb6 ?_;intro g7 c7 w7 ho hb7 hag hg7;rw[hol2]at ho ⊢;have FF:=zhd (FIN.out g7 c7 w7 ho hb7 hag hg7);clear ho hb7 hag hg7 FIN HOw HRD hby hbn hol2)
      go_roundw
      case rel=>
       obtain ⟨r1,r2,r3,r4⟩:=FF.out
       exact ⟨m+1,vv2,RB+1,some ⟨g7,0,none⟩,c7,by omega,by go_num,rfl,rfl,zhd r1,zhd r2,zhd r3,zhd r4⟩
      case measure=>simp[intOf];omega
     obtain ⟨a,ha⟩:∃a:Nat,nth r (j2+1)=a:=⟨(nth r (j2+1)).toNat,by have:=HBR.out j2 (by omega);omega⟩
     have ha32:a<32:=by have:=HBR.out j2 (by omega);omega
     have hwm:IntKind.i64.wrap ((m:Int)+1)=((m+1:Nat):Int):=by rw[IntKind.wrap_i64];omega
     go_wp2_with fail
     refine (Zs _).mono ?_
     rintro _ w8 ⟨_,rfl,hb8,rfl⟩
     have RV:=zh w8 [.int .i64 j2,.int .i64 ((m:Int)+1),.int .i64 0,.int .i64 (-1),.int .i64 (-1),.int .i64 (-1),.int .i64 (-1),.int .i64 (-1)] 72
     have hb8a:=zg hb8 (.cells #[.int .i64 j2,.int .i64 ((m:Int)+1),.int .i64 0,.int .i64 (-1),.int .i64 (-1),.int .i64 (-1),.int .i64 (-1),.int .i64 (-1)] 72)
     have hs8:=hb8.size
     go_wp2
     obtain ⟨VB,hVB⟩:∃VB,VB=w8.heap.size:=⟨_,rfl⟩
     obtain ⟨w9,hw9⟩:∃w9,w9=w8.alloc (.cells #[.int .i64 j2,.int .i64 ((m:Int)+1),.int .i64 0,.int .i64 (-1),.int .i64 (-1),.int .i64 (-1),.int .i64 (-1),.int .i64 (-1)] 72):=⟨_,rfl⟩
     rw[←hVB]at RV ⊢ hs8
     rw[←hw9]at RV hb8a ⊢
     have HRV:Hid (Row w9 VB 72 ((seenV r 0 (m+1) j2 prev).map (Value.int .i64))):=zhd (by rw[zcj];exact RV)
     clear hw9 hVB hb8 RV
     go_loopw [15,16,66] (fun _ _ i wr=>∃j:Nat,j≤k∧i=.int .i64 j∧Below w6.heap.size w6 wr∧Hid (Row wr VB 72 ((seenV r j (m+1) j2 prev).map (Value.int .i64)))) (fun _ _ i _=>k - (intOf i).toNat)
     case atStart=>exact ⟨0,Nat.zero_le _,rfl,hb8a,HRV⟩
     case round=>
      clear hb8a HRV
      obtain ⟨j,hjk2,rfl,hb,HRV⟩:=hrel
      by_cases hjl:j<k
      case neg=>
       obtain rfl:j=k:=by omega
       obtain ⟨v,hv⟩:∃v,v=seenV r j (m+1) j2 prev:=⟨_,rfl⟩
       have hvk:ViewOK v:=by rw[hv];exact zcb HOL.out.2.2.2 (by omega) (by omega)
       have hRV:=HRV.out
       rw[←hv,cells8 hvk.1]at hRV
       have hVl:=hRV.lt
       have t0:=hRV.zc 0 rfl
       have t1:=hRV.zc 1 rfl
       have t2:=hRV.zc 2 rfl
       have t3:=hRV.zc 3 rfl
       have t4:=hRV.zc 4 rfl
       have t5:=hRV.zc 5 rfl
       have t6:=hRV.zc 6 rfl
       have t7:=hRV.zc 7 rfl
       have q2:=Zw (RB+1) j j hjk
       have KA:Hid (∀w',Below w6.heap.size w6 w'→Calls Tryz.prog 98 #[.pointer (some ⟨BB,0,none⟩),.agg #[.int .i64 (nth v 0),.int .i64 (nth v 1),.int .i64 (nth v 2),.int .i64 (nth v 3),.int .i64 (nth v 4),.int .i64 (nth v 5),.int .i64 (nth v 6),.int .i64 (nth v 7)]] w' (fun e W'=>e=.returned (.int .i64 (idxV (layV (fun q=>seenV r j (m+1) q prev) tm j2).1 v:Nat))∧BEnd B BB MB (j:Int) w' vv2 (addV (layV (fun q=>seenV r j (m+1) q prev) tm j2).1 v) W')):=zhd fun w' hw=>XK (HP3.out.st.ext hw) hvk (Nat.le_trans hB5 (HP3.out.ext hB5 hw).size) (by
        have:=yI (fun q=>seenV r j (m+1) q prev) tm j2
        have:=HOL.out.2.1
        have hkm:j * (m+1)≤5 * 7:=Nat.mul_le_mul (by omega) (by omega)
        omega)
       have FIN:=zhd fun (w2 w3:World) (hw:Below w6.heap.size w6 w2) (he:BEnd B BB MB (j:Int) w2 vv2 (addV (layV (fun q=>seenV r j (m+1) q prev) tm j2).1 v) w3)=>zb4 hB5 (show B≤RB+1 by omega) HP3.out HR3.out HQ3.out hjk hw (show v=(fun q=>seenV r j (m+1) q prev) j2 from hv) he
       obtain ⟨ix,hix⟩:∃ix,ix=idxV (layV (fun q=>seenV r j (m+1) q prev) tm j2).1 v:=⟨_,rfl⟩
       rw[←hix]at KA FIN
       clear hix hRV hv hvk HRV HP3 HR3 HQ3
       go_wp2_with fail
       refine (KA.out _ hb).mono ?_
       rintro _ w10 ⟨rfl,he⟩
       obtain ⟨vv3,G0,G3,G4,G5,G1,G6,G7⟩:=FIN.out _ _ hb he
       have G1:=zhd G1
       have G6:=zhd G6
       have G7:=zhd G7
       clear FIN KA he G0 t0 t1 t2 t3 t4 t5 t6 t7 hVl
       go_wp2
       go_roundw
       case rel=>exact ⟨j2+1,vv3,by omega,by go_num,G1,G6,G7⟩
       case measure=>simp[intOf];omega
      obtain ⟨hGw,hRw⟩:=HK5.out wr (HP3.out.ext hB5 hb).ag
      have hpl:=HOL.out.2.2.1
      obtain ⟨y,hy⟩:∃y,y=nth prev j:=⟨_,rfl⟩
      have t1:=hGw.cell (j:=j) (u:=.int .i64 y) (by rw[List.getElem?_map,get?_nth (by omega),hy];rfl)
      have t2:=hRw.cell (j:=1+j2) (u:=.int .i64 a) (by rw[←ha];have h5:=five (show j2<5 by omega);rcases h5 with rfl | rfl | rfl | rfl | rfl<;>rfl)
      have q1:=Zw g k k hjl
      have q2:=qE RB (show j2<5 by omega)
      have q3:=yQ VB 3 (show j<5 by omega)
      have hl1:=hGw.lt
      have hl2:=hRw.lt
      have hl3:=HRV.out.lt
      have f3:=HRV.out.free (3+j)
      have hst:=zcm (g:=r) (j:=j) (k:=m+1) (p:=j2) (prev:=prev) (by omega)
      rw[ha,Int.toNat_natCast]at hst
      have BI:=zdo a j
      by_cases hbt:a.testBit j=true
      ·rw[hbt]at BI
       rw[if_pos hbt,←hy]at hst
       have d3:∃u,wr.cell? ⟨VB,3+j,none⟩=some u:=by
        obtain ⟨u,hu⟩:∃u,((seenV r j (m+1) j2 prev).map (Value.int .i64))[3+j]? =some u:=⟨_,List.getElem?_eq_getElem (by unfold seenV;simp;omega)⟩
        exact ⟨u,HRV.out.cell hu⟩
       obtain ⟨u3,d3⟩:=d3
       have NX:Hid (Below w6.heap.size w6 (wr.setCell ⟨VB,3+j,none⟩ (.int .i64 y))∧Row (wr.setCell ⟨VB,3+j,none⟩ (.int .i64 y)) VB 72 ((seenV r (j+1) (m+1) j2 prev).map (Value.int .i64))):=zhd ⟨hb.setCell (by simpa using hs8) _,by rw[←hst,List.map_set];exact HRV.out.set _ _⟩
       clear hst hbt hy ha hGw hRw HRV hb
       go_wp2
       go_roundw
       case rel=>exact ⟨j+1,by omega,by go_num,NX.out.1,zhd NX.out.2⟩
       case measure=>simp[intOf];omega
      ·have hbf:a.testBit j=false:=by simpa using hbt
       rw[hbf]at BI
       rw[if_neg hbt]at hst
       have NX:Hid (Row wr VB 72 ((seenV r (j+1) (m+1) j2 prev).map (Value.int .i64))):=zhd (by rw[←hst];exact HRV.out)
       clear hst hbt hbf hy ha hGw hRw HRV
       go_wp2
       go_roundw
       case rel=>exact ⟨j+1,by omega,by go_num,hb,NX⟩
       case measure=>simp[intOf];omega
  have q1:=zz (P:=Tryz.prog) (S:=S) (w:=wr) Tryz.underlying36 hi hz1 (a:=ia) (n:=inn.length) (cap:=ic) (HIA.out.agree (HPE.out.ag.mono HLOW.out)) k (by have:=HLEN.out;omega)
  have q2:=Zw NB N N hlt
  obtain ⟨x,hx⟩:∃x,x=nth inn k:=⟨_,rfl⟩
  have hkl:k<inn.length:=by have:=HLEN.out;omega
  have hxw:WF x:=by rw[hx];exact HWF.out _ (ZA hkl)
  have CX:Hid (∀w',Agree (fun b=>keepsB BB MB vv b∧b≠NB) W w'→w'.cell? (adr ia k)=some (.int .i64 x)):=zhd fun w' hw=>by
   have:=yf (HI.out.agree (hw.mono HLOW.out)) (.refl _ _) k hkl
   rw[this,List.getD_eq_getElem?_getD,List.getElem?_map,get?_nth hkl,hx];rfl
  have hBNB:B≤NB:=by rw[HNB.out];exact hB
  have hvx:firstV k x=(fun q=>firstV q (nth inn q)) k:=by rw[hx]
  have KEEP:Hid (∀w',Below wr.heap.size wr w'→w'.cell? (adr ia k)=some (.int .i64 x)):=zhd fun w' hw=>CX.out w' (HPE.out.ext hB hw).ag
  have KA:Hid (∀w',Below wr.heap.size wr w'→Calls Tryz.prog 98 #[.pointer (some ⟨BB,0,none⟩),.agg #[.int .i64 k,.int .i64 0,.int .i64 x,.int .i64 (-1),.int .i64 (-1),.int .i64 (-1),.int .i64 (-1),.int .i64 (-1)]] w' (fun e W'=>e=.returned (.int .i64 (idxV (layV (fun q=>firstV q (nth inn q)) tab k).1 (firstV k x):Nat))∧BEnd B BB MB (N:Int) w' vv1 (addV (layV (fun q=>firstV q (nth inn q)) tab k).1 (firstV k x)) W')):=zhd fun w' hw=>XK (HPE.out.st.ext hw) (zaF hxw (by omega)) (Nat.le_trans hB (HPE.out.ext hB hw).size) (by have:=yI (fun q=>firstV q (nth inn q)) tab k;omega)
  have FIN:Hid (∀w2 w3,Below wr.heap.size wr w2→BEnd B BB MB (N:Int) w2 vv1 (addV (layV (fun q=>firstV q (nth inn q)) tab k).1 (firstV k x)) w3→∃vv3,w3.cell? (adr ia k)=some (.int .i64 x)∧w3.cell? ⟨NB,k,none⟩=some (.int .i64 0)∧w3.frozen? ⟨NB,k,none⟩=false∧NB<w3.heap.size∧
   PE B BB MB (N:Int) NB W vv (w3.setCell ⟨NB,k,none⟩ (.int .i64 (idxV (layV (fun q=>firstV q (nth inn q)) tab k).1 (firstV k x):Nat))) vv3 (layV (fun q=>firstV q (nth inn q)) tab (k+1)).1∧Row (w3.setCell ⟨NB,k,none⟩ (.int .i64 (idxV (layV (fun q=>firstV q (nth inn q)) tab k).1 (firstV k x):Nat))) NB 3 (layR (fun q=>firstV q (nth inn q)) tab N (k+1))∧PR NB BB MB (w3.setCell ⟨NB,k,none⟩ (.int .i64 (idxV (layV (fun q=>firstV q (nth inn q)) tab k).1 (firstV k x):Nat))) vv3 NB):=zhd fun w2 w3 hw he=>by
   obtain ⟨vv3,r1,r⟩:=zb4 hB hBNB HPE.out HRN.out HPR.out hlt hw hvx he
   exact ⟨vv3,CX.out w3 r1,r⟩
  have hil:=HLEN.out
  rw[hil]at q1
  clear hil hx hvx hkl hxw CX HPE HRN HPR
  obtain ⟨ix,hix⟩:∃ix,ix=idxV (layV (fun q=>firstV q (nth inn q)) tab k).1 (firstV k x):=⟨_,rfl⟩
  rw[←hix]at KA FIN
  clear hix
  go_wp2
  refine zF (fun w':World=>w'.cell? (adr ia k)=some (.int .i64 x)) (fun i=>i==12) (by kernel_rfl) ?_ (fun hHeld=>?_)
  ·exact KEEP.out _ (zf _ _ 1)
  refine za 0 (v:=?_) rfl (by kernel_rfl) (fun _ _ _ h=>h) (by rfl) ?hy0 hHeld ?r0
  case hy0=>(intro w hSw;(try dsimp only at hSw);go_simp;try with_reducible rfl)
  try simp only[Act.put,zsa,zsz,zss]
  refine za 1 (v:=?_) rfl (by kernel_rfl) (fun _ _ _ h=>h) (by rfl) ?hy1 hHeld ?r1
  case hy1=>(intro w hSw;(try dsimp only at hSw);go_simp;try with_reducible rfl)
  try simp only[Act.put,zsa,zsz,zss]
  refine za 2 (v:=?_) rfl (by kernel_rfl) (fun _ _ _ h=>h) (by rfl) ?hy2 hHeld ?r2
  case hy2=>(intro w hSw;(try dsimp only at hSw);go_simp;try with_reducible rfl)
  try simp only[Act.put,zsa,zsz,zss]
  refine za 3 (v:=?_) rfl (by kernel_rfl) (fun _ _ _ h=>h) (by rfl) ?hy3 hHeld ?r3
  case hy3=>(intro w hSw;(try dsimp only at hSw);go_simp;try with_reducible rfl)
  try simp only[Act.put,zsa,zsz,zss]
  refine za 4 (v:=?_) rfl (by kernel_rfl) (fun _ _ _ h=>h) (by rfl) ?hy4 hHeld ?r4
  case hy4=>(intro w hSw;(try dsimp only at hSw);go_simp;try with_reducible rfl)
  try simp only[Act.put,zsa,zsz,zss]
  refine za 5 (v:=?_) rfl (by kernel_rfl) (fun _ _ _ h=>h) (by rfl) ?hy5 hHeld ?r5
  case hy5=>(intro w hSw;(try dsimp only at hSw);go_simp;try with_reducible rfl)
  try simp only[Act.put,zsa,zsz,zss]
  refine za 6 (v:=?_) rfl (by kernel_rfl) (fun _ _ _ h=>h) (by rfl) ?hy6 hHeld ?r6
  case hy6=>(intro w hSw;(try dsimp only at hSw);go_simp;try with_reducible rfl)
  try simp only[Act.put,zsa,zsz,zss]
  refine za 7 (v:=?_) rfl (by kernel_rfl) (fun _ _ _ h=>h) (by rfl) ?hy7 hHeld ?r7
  case hy7=>(intro w hSw;(try dsimp only at hSw);go_simp;try with_reducible rfl)
  try simp only[Act.put,zsa,zsz,zss]
  refine zn 8 rfl (by kernel_rfl) (fun K hK=>?_)
  go_simp;go_at_call 99;refine (Zs _).mono ?_;rintro _ w2 ⟨_,rfl,hb2,rfl⟩;have y2:=zb (zf _ _ 1) hb2;clear hb2
  refine hK.out _ _ (fun _=>KEEP.out _ y2) (fun hHeld=>?_);replace hHeld:=hHeld rfl
  clear hK K
  try simp only[Act.put,zsa,zsz,zss]
  refine za 9 (v:=?_) rfl (by kernel_rfl) (fun _ _ _ h=>h) (by rfl) ?hy9 hHeld ?r9
  case hy9=>(intro w hSw;(try dsimp only at hSw);go_simp;try with_reducible rfl)
  try simp only[Act.put,zsa,zsz,zss]
  refine zn 10 rfl (by kernel_rfl) (fun K hK=>?_)
  go_simp;go_at_call 98;refine (KA.out w2 y2).mono ?_;rintro _ w3 ⟨rfl,he⟩;obtain ⟨vv3,G2,G3,G4,G5,G1,G6,G7⟩:=FIN.out w2 w3 y2 he;have G1:=zhd G1;have G6:=zhd G6;have G7:=zhd G7;clear he
  refine hK.out _ _ (fun _=>G2) (fun hHeld=>?_);replace hHeld:=hHeld rfl
  clear hK K
  try simp only[Act.put,zsa,zsz,zss]
  refine za 11 (v:=?_) rfl (by kernel_rfl) (fun _ _ _ h=>h) (by rfl) ?hy11 hHeld ?r11
  case hy11=>(intro w hSw;(try dsimp only at hSw);go_simp;try with_reducible rfl)
  try simp only[Act.put,zsa,zsz,zss]
  refine zn 12 rfl (by kernel_rfl) (fun K hK=>?_)
  go_simp
  refine hK.out _ _ (fun h=>by simp at h) (fun hHeld=>?_)
  clear hK K
  try simp only[Act.put,zsa,zsz,zss]
  refine zy (by kernel_rfl) ?_ _
  clear hHeld KEEP KA FIN
  go_wp2
  go_roundw
  case rel=>exact ⟨k+1,vv3,by omega,by go_num,G1,G6,G7⟩
  case measure=>simp[intOf];omega
end Go.Proofs.YtfjlhjkjjbiliaaGreat
namespace Go.Proofs.YtfjlhjkjjbiliaaGreat
open Go.RowKit
attribute [local go_sem ↓] Go.wp_at_zero Go.wp_at_succ
def pairsI (c l:Nat):List (Nat×Nat):=(List.range c).flatMap fun i=>(List.range l).map fun j=>(i,j)
def pairsIT (l k:Nat):List (Nat×Nat):=(List.range k).flatMap fun i=>(List.range l).map fun j=>(i,j)
theorem qS (l k:Nat):pairsIT l (k+1)=pairsIT l k++(List.range l).map fun j=>(k,j):=by
 unfold pairsIT;rw[List.range_succ,List.flatMap_append,List.flatMap_singleton]
theorem xF {c l k j:Nat} (h:k<c) (hj:j≤l):pairsIT l k++(List.range j).map (fun j=>(k,j))<+:pairsI c l:=by
 have h1:pairsIT l (k+1)<+:pairsI c l:=by
  unfold pairsIT pairsI
  obtain ⟨d,hd⟩:∃d,c=(k+1)+d:=⟨c - (k+1),by omega⟩
  rw[hd,show List.range (k+1+d)=List.range (k+1)++(List.range d).map (k+1+·) from List.range_add ..,List.flatMap_append]
  exact List.prefix_append _ _
 refine List.IsPrefix.trans ?_ h1
 rw[qS]
 refine (List.prefix_append_right_inj _).2 ?_
 obtain ⟨d,hd⟩:∃d,l=j+d:=⟨l - j,by omega⟩
 rw[hd,List.range_add,List.map_append]
 exact List.prefix_append _ _
theorem xC (k j:Nat):(List.range (j+1)).map (fun j=>(k,j))=(List.range j).map (fun j=>(k,j))++[(k,j)]:=by rw[List.range_succ];simp
theorem zc6 (ws:List (List (List Int))):(List.range ws.length).map (fun j=>nthW ws j)=ws:=by
 apply List.ext_getElem
 ·simp
 ·intro i h1 h2
  simp only[List.getElem_map,List.getElem_range]
  exact qN h2
theorem yN (c:Nat) (ws:List (List (List Int))):(pairsI c ws.length).map (fun x=>(x.1,nthW ws x.2))=pairsW c ws:=by
 unfold pairsI pairsW
 rw[List.map_flatMap]
 congr 1
 funext i
 rw[List.map_map]
 show (List.range ws.length).map ((fun w=>(i,w))∘fun j=>nthW ws j)=_
 rw[←List.map_map,zc6]
theorem QB {S:Nat→Prop} {w:World} {a:Option Addr} {m cap:Nat} {ws:List (List (List Int))} (h:Sl kWord S w (.slice a m cap) ws):
  ∃(wb:Nat→Option Addr) (wk:Nat→Nat),∀j,j<ws.length→∀W,Agree S w W→W.cell? (adr a j)=some (.slice (wb j) (nthW ws j).length (wk j))∧Sl (kFlat 7) S W (.slice (wb j) (nthW ws j).length (wk j)) (nthW ws j):=by
 have hx:∀j:Nat,∃p:Option Addr×Nat,j<ws.length→w.cell? (adr a j)=some (.slice p.1 (nthW ws j).length p.2)∧Sl (kFlat 7) S w (.slice p.1 (nthW ws j).length p.2) (nthW ws j):=fun j=>by
  by_cases hj:j<ws.length
  ·obtain ⟨b,c,h1,h2⟩:=h.word (.refl _ _) hj
   exact ⟨(b,c),fun _=>⟨h1,h2⟩⟩
  ·exact ⟨(none,0),fun h=>absurd h hj⟩
 refine ⟨fun j=>(Classical.choose (hx j)).1,fun j=>(Classical.choose (hx j)).2,fun j hj W hW=>?_⟩
 obtain ⟨h1,h2⟩:=Classical.choose_spec (hx j) hj
 refine ⟨?_,h2.agree hW⟩
 rw[←h1]
 exact h.ad.1.cell hW hj
theorem zaY {S T:Nat→Prop} {w:World} {n B1 B2 C:Nat} (hn:1≤n) (hC:C≤140737488355328) {p0 p1 p2 p4 p5 p6:Value} {ca:Option Addr} {cc:Nat} {wa:Option Addr} {wc:Nat} {ws:List (List (List Int))} {wb:Nat→Option Addr} {wk:Nat→Nat}
  (R1:Row w B1 29 [p0,p1,p2,.slice ca C cc,p4,p5,p6]) (R2:Row w B2 139 [.slice wa ws.length wc]) (hs:Sl kWord S w (.slice wa ws.length wc) ws)
  (hv:∀j,j<ws.length→∀W,Agree S w W→W.cell? (adr wa j)=some (.slice (wb j) (nthW ws j).length (wk j))) (hT1:T B1) (hT2:T B2) (hTS:∀b,S b→T b) (hTw:∀b,T b→b<w.heap.size):
  SeqStopsK Fence.wide n Tryz.prog 97 #[.pointer (some ⟨B1,0,none⟩),.pointer (some ⟨B2,0,none⟩)] (fun x:{x:Nat×Nat // x.1<C∧x.2<ws.length}=>#[.int .i64 x.1.1,.slice (wb x.1.2) (nthW ws x.1.2).length (wk x.1.2)]) (Agree T) (fun xs=>xs.map (·.1)=pairsI C ws.length) (fun pre=>pre.map (·.1)<+:pairsI C ws.length) (pairsI C ws.length).length w:=by
 intro l J Jx W hW hJ hJx hY h0
 have Q:=hs.idxW
 have HV:Hid (∀W',Agree T W W'→∀j,j<ws.length→W'.cell? (adr wa j)=some (.slice (wb j) (nthW ws j).length (wk j))):=zhd fun W' h j hj=>hv j hj W' ((Agree.of_ext hW).trans (h.mono hTS))
 have HAD:Hid (∀W',Agree T W W'→Ad S W' wa ws.length wc):=zhd fun W' h=>hs.ad.1.agree ((Agree.of_ext hW).trans (h.mono hTS))
 have HY:=zhd hY
 have H0:=zhd h0
 have HJ:=zhd hJ
 have R1:=R1.ext hW
 have R2:=R2.ext hW
 have RR1:Hid (∀W',Agree T W W'→Row W' B1 29 [p0,p1,p2,.slice ca C cc,p4,p5,p6]):=zhd fun W' h=>R1.agree h hT1
 have RR2:Hid (∀W',Agree T W W'→Row W' B2 139 [.slice wa ws.length wc]):=zhd fun W' h=>R2.agree h hT2
 have p1:=R1.zc 3 rfl
 have hag:Agree T W W:=.refl _ _
 have hWs:=hW.size
 have hLm:ws.length≤maxLen:=hs.len
 unfold maxLen at hLm
 clear hs hJ hJx hY h0 hTS hTw hv R1 R2
 refine callsIn_of_wp Tryz.func97 rfl trivial ?_ rfl
 simp only[Tryz.ntmps97,List.size_toArray,List.length_cons,List.length_nil,Nat.reduceAdd,Nat.reduceSub,Array.replicate_succ,Array.replicate_zero,List.push_toArray,List.append_toArray,List.nil_append,List.cons_append]
 gi_wp2
 gi_loopw [4,6,11,16] (fun _ _ i _ wr=>∃(k:Nat) (pre:List {x:Nat×Nat // x.1<C∧x.2<ws.length}),k≤C∧i=.int .i64 k∧Hid (J pre wr)∧Hid (pre.map (·.1)=pairsIT ws.length k)∧Agree T W wr) (fun _ _ i _ _=>C - (intOf i).toNat)
 case atStart=>exact ⟨0,[],Nat.zero_le _,rfl,H0,zhd rfl,hag⟩
 case round=>
  obtain ⟨k,pre,hk,rfl,HJs,HP,hA⟩:=hrel
  obtain ⟨wo,hwo⟩:∃wo:World,wo=wr:=⟨_,rfl⟩
  rw[←hwo]at HJs hA ⊢
  clear hwo
  by_cases hlt:k<C
  ·have c2:=(RR2.out wo hA).zc 0 rfl
   gi_wp2
   gi_loopw [6,16] (fun _ i wi=>∃(j:Nat) (pre:List {x:Nat×Nat // x.1<C∧x.2<ws.length}),j≤ws.length∧i=.int .i64 j∧Hid (J pre wi)∧Hid (pre.map (·.1)=pairsIT ws.length k++(List.range j).map (fun j=>(k,j)))∧Agree T W wi) (fun _ i _=>ws.length - (intOf i).toNat)
   case atStart=>exact ⟨0,pre,Nat.zero_le _,rfl,HJs,zhd (by simpa using HP.out),hA⟩
   case round=>
    clear HJs HP hA c2
    obtain ⟨j,pre,hj,rfl,HJs,HP,hA⟩:=hrel
    by_cases hjl:j<ws.length
    ·have hjw:j<ws.length:=hjl
     have qr:=Q.out j hjw
     have z0:=HV.out wr hA j hjw
     have hbk:=zO (HAD.out wr hA) (show 0<ws.length by omega) j
     have HPN:Hid ((pre++[(⟨(k,j),hlt,hjw⟩:{x:Nat×Nat // x.1<C∧x.2<ws.length})]).map (·.1)=pairsIT ws.length k++(List.range (j+1)).map (fun j=>(k,j))):=zhd (by rw[xC,List.map_append,HP.out,List.append_assoc];simp)
     have HPX:Hid ((pre++[(⟨(k,j),hlt,hjw⟩:{x:Nat×Nat // x.1<C∧x.2<ws.length})]).map (·.1)<+:pairsI C ws.length):=zhd (by rw[HPN.out];exact xF hlt hjw)
     have hpl:pre.length<(pairsI C ws.length).length:=by
      have h2:=HPX.out.length_le
      rw[List.length_map,List.length_append]at h2
      simp at h2
      omega
     obtain ⟨fn,tmps,assign,body,hyy,hRnd⟩:=HY.out pre ⟨(k,j),hlt,hjw⟩ _ HJs.out hpl
     dsimp only at hyy
     clear hpl
     gi_wp2
     refine hRnd.mono ?_
     rintro e W3 (⟨rfl,hJ3,hk3⟩ | ⟨rfl,hJx3⟩)
     ·have HJ3:=zhd hJ3
      have hA3:=hA.trans hk3
      clear hJ3 hyy hRnd z0
      gi_wp2
      go_roundw
      case rel=>exact ⟨j+1,_,by omega,by go_num,HJ3,HPN,hA3⟩
      case measure=>simp[intOf];omega
     ·have HJ3:=zhd hJx3
      clear hJx3 hyy hRnd z0
      gi_wp2
      refine bodyPost_ret (results_none rfl _ _ _) rfl ?_
      exact ⟨⟨_,rfl⟩,.inr ⟨_,HPX.out,HJ3.out⟩⟩
    ·obtain rfl:j=ws.length:=by omega
     have HPN:Hid (pre.map (·.1)=pairsIT ws.length (k+1)):=zhd (by rw[qS,HP.out])
     clear HP
     gi_wp2
     go_roundw
     case rel=>exact ⟨k+1,pre,by omega,by go_num,HJs,HPN,hA⟩
     case measure=>simp[intOf];omega
  ·obtain rfl:k=C:=by omega
   have HPE:Hid (pre.map (·.1)=pairsI k ws.length):=zhd HP.out
   gi_wp2
   go_end0
   exact ⟨⟨_,rfl⟩,.inl ⟨pre,HPE.out,HJs.out⟩⟩
theorem zbj (w:World) (p0 p1 p2 p4 p6:Int) (ca:Option Addr) (c cc:Nat) (sa:Option Addr) (s sc:Nat) (wa:Option Addr) (n wc:Nat):Calls Tryz.prog 73 #[.agg #[.int .i64 p0,.int .i64 p1,.int .i64 p2,.slice ca c cc,.int .i64 p4,.slice sa s sc,.int .i64 p6],.slice wa n wc] w fun e w'=>e=.returned (.func (.func 97) #[] #[.pointer (some ⟨w.heap.size,0,none⟩),.pointer (some ⟨w.heap.size+1,0,none⟩)])∧w'=(w.alloc (.cells #[.int .i64 p0,.int .i64 p1,.int .i64 p2,.slice ca c cc,.int .i64 p4,.slice sa s sc,.int .i64 p6] 29)).alloc (.cells #[.slice wa n wc] 139):=by
 go_enter Tryz.func73,Tryz.ntmps73
 go_wp2
 go_ret
 exact ⟨rfl,rfl⟩
end Go.Proofs.YtfjlhjkjjbiliaaGreat
namespace Go.Proofs.YtfjlhjkjjbiliaaGreat
open Go.RowKit Go.Maps
attribute [local go_sem ↓] Go.wp_at_zero Go.wp_at_succ
def kExec:Kd ExecD where
 size:=3
 rd S w cs x:=∃v1 v2,cs=[.int .i64 x.case,v1,v2]∧Sl (kFlat 7) S w v1 x.word∧Lists S w v2 x.vs
 agree h hw:=by obtain ⟨v1,v2,e,h1,h2⟩:=h;exact ⟨v1,v2,e,h1.agree hw,h2.agree hw⟩
 mono h hS:=by obtain ⟨v1,v2,e,h1,h2⟩:=h;exact ⟨v1,v2,e,h1.mono hS,h2.mono hS⟩
 block h:=by obtain ⟨v1,v2,e,h1,h2⟩:=h;exact ⟨v1,v2,e,h1.block,h2.block⟩
 len h:=by obtain ⟨v1,v2,rfl,_⟩:=h;rfl
 one h u hu:=by
  obtain ⟨v1,v2,rfl,h1,h2⟩:=h
  obtain ⟨a1,c1,rfl,_⟩:=h1.form
  obtain ⟨a2,c2,rfl,_⟩:=h2.form
  simp at hu
  rcases hu with rfl | rfl | rfl<;>rfl
def isC (W:World) (b:Nat):Prop:=∃o:Obj,W.heap[b]? =some o∧o.isCells=true
theorem Row.isC {W:World} {g:Nat} {e:TypeId} {xs:List Value} (h:Row W g e xs):isC W g:=⟨_,h,rfl⟩
theorem OwnK.isC {α:Type} {K:Kd α} {e:TypeId} {base:Nat} {S:Nat→Prop} {w:World} {v:Value} {l:List α} (h:OwnK K e base S w v l):∀g,v.ownBlock=some g→Go.Proofs.YtfjlhjkjjbiliaaGreat.isC w g:=fun g hg=>by
 obtain ⟨xs,ho,_⟩:=h
 rcases ho.2 with ⟨rfl,_⟩ | ⟨g',cap,cur,rfl,_,hgl,_⟩
 ·cases hg
 ·have:g'=g:=by simpa[Value.ownBlock] using hg
  subst this
  exact ⟨_,hgl,rfl⟩
theorem zbU {w:World} {p:Addr} {u:Value} (h:w.cell? p=some u):isC w p.block:=by
 unfold World.cell? at h
 split at h
 ·rename_i e;exact ⟨_,e,rfl⟩
 ·cases h
theorem isC.agree {T:Nat→Prop} {W W':World} {b:Nat} (h:isC W b) (hA:Agree T W W') (hT:T b):isC W' b:=by
 obtain ⟨o,h1,h2⟩:=h
 exact ⟨o,(hA.block b hT (Array.getElem?_eq_some_iff.1 h1).1).trans h1,h2⟩
theorem Ints.isC {S:Nat→Prop} {w:World} {v:Value} {l:List Int} (h:Ints S w v l) (hl:1≤l.length):Ints (fun b=>S b∧isC w b) w v l:=by
 obtain ⟨a,cap,rfl,had,h1,h2,hc⟩:=h
 refine ⟨a,cap,rfl,?_,h1,h2,hc⟩
 rcases had with ⟨h0,_⟩ | ⟨b,off,rfl,hb,hs⟩
 ·omega
 ·exact .inr ⟨b,off,rfl,hb,hs,zbU (hc.1 0 (by omega))⟩
theorem Lists.isC {S:Nat→Prop} {w:World} {v:Value} {ll:List (List Int)} (h:Lists S w v ll) (hl:1≤ll.length) (hr:∀l∈ll,1≤l.length):Lists (fun b=>S b∧isC w b) w v ll:=by
 obtain ⟨a,cap,rfl,had,h1,h2,hc⟩:=h
 refine ⟨a,cap,rfl,?_,h1,h2,fun k hk=>?_⟩
 ·rcases had with ⟨h0,_⟩ | ⟨b,off,rfl,hb,hs⟩
  ·omega
  ·obtain ⟨u,hu,_⟩:=hc 0 (by omega)
   exact .inr ⟨b,off,rfl,hb,hs,zbU hu⟩
 ·obtain ⟨u,hu,hi⟩:=hc k hk
  exact ⟨u,hu,hi.isC (hr _ (yj hk))⟩
theorem OwnK.self {α:Type} {K:Kd α} {e:TypeId} {base:Nat} {S:Nat→Prop} {w:World} {v:Value} {l:List α} (h:OwnK K e base S w v l):OwnK K e base (fun b=>S b∧v.ownBlock≠some b) w v l:=by
 obtain ⟨xs,ho,hr⟩:=h
 exact ⟨xs,ho,fun j hj=>K.mono (hr j hj) fun b hb=>⟨hb,hb.2⟩⟩
def zzPC (N0 BB MB:Nat) (W:World) (vv:Value) (b:Nat):Prop:=PR N0 BB MB W vv b∧isC W b
theorem zzPC.next {N0 BB MB b:Nat} {W W':World} {vv vv':Value} {T:Nat→Prop} (h:zzPC N0 BB MB W vv b) (hA:Agree T W W') (hT:T b) (hg:∀g,vv'.ownBlock=some g→vv.ownBlock=some g∨W.heap.size≤g):zzPC N0 BB MB W' vv' b:=
 ⟨h.1.next hA.size hg,h.2.agree hA hT⟩
theorem zzPC.same {N0 BB MB b:Nat} {W W':World} {vv:Value} {T:Nat→Prop} (h:zzPC N0 BB MB W vv b) (hA:Agree T W W') (hT:T b):zzPC N0 BB MB W' vv b:=h.next hA hT fun g hg=>.inl hg
structure BF (B BB MB S7:Nat) (w0:World) (hd:List Value):Prop where
 s1:B≤S7
 s2:S7<w0.heap.size
 b2:BB<w0.heap.size
 m2:MB<w0.heap.size
 sb:S7≠BB
 sm:S7≠MB
 hd:hd.length=9
def BT (BB MB S7:Nat) (w0:World) (b:Nat):Prop:=b<w0.heap.size∧b≠BB∧b≠MB∧b≠S7
structure zzBI (B BB MB S7 N:Nat) (w0:World) (hd:List Value) (W:World) (vv xv:Value) (tab:List (List Int)) (ex:List ExecD):Prop where
 ag:Agree (BT BB MB S7 w0) w0 W
 be:Below B w0 W
 st:BSt B BB MB (N:Int) W vv tab
 row:Row W S7 35 (hd++[xv])
 own:OwnK kExec 111 w0.heap.size (zzPC w0.heap.size BB MB W vv) W xv ex
 xo:∀q,xv.ownBlock=some q→PR w0.heap.size BB MB W vv q
 vo:∀q,vv.ownBlock=some q→w0.heap.size≤q
theorem zzBI.own_from {β:Type} {B BB MB S7 N:Nat} {w0:World} {hd:List Value} (F:BF B BB MB S7 w0 hd) (f:β→List (List Int)) (g:β→List ExecD):OwnFrom w0.heap.size (fun (s:β) W=>∃vv xv,zzBI B BB MB S7 N w0 hd W vv xv (f s) (g s)):=by
 rintro s W W' row ⟨vv,xv,h⟩ hg hr
 have hA:Agree (fun b=>row≠some b) W W':=.of_grown hg fun b hb=>hb
 have lowr:∀b,b<w0.heap.size→row≠some b:=fun b hb e=>by have:=(hr b e).1;omega
 have cellr:∀b,Go.Proofs.YtfjlhjkjjbiliaaGreat.isC W b→row≠some b:=fun b hb e=>by
  obtain ⟨_,o,h1,h2⟩:=hr b e
  obtain ⟨o',h3,h4⟩:=hb
  rw[h1]at h3
  cases h3
  rw[h2]at h4;cases h4
 refine ⟨vv,xv,h.ag.trans (hA.mono fun b hb=>lowr b hb.1),h.be.grown hg ?_ fun k hk=>?_,h.st.agree hA (lowr _ F.b2) (lowr _ F.m2) fun q hq=>cellr q (h.st.own.isC q hq),h.row.agree hA (lowr _ F.s2),?_,fun q hq=>(h.xo q hq).same hA.size,h.vo⟩
 ·have h1:=h.be.size;have h2:=F.s1;have h3:=F.s2;omega
 ·have h1:=(hr k hk).1;have h2:=F.s1;have h3:=F.s2;omega
 ·exact h.own.slot hA (fun q hq=>cellr q (h.own.isC q hq)) (fun b hb=>cellr b hb.2) fun b hb=>hb.same hA (cellr b hb.2)
theorem qW {B:Nat} {T:Nat→Prop} {W W':World} (hA:Agree T W W') (hT:∀k o,B≤k→W.heap[k]? =some o→o.isCells=false→T k):KeepsFrom B W W':=
 ⟨hA.size,fun k o hk h0 ho=>(hA.block k (hT k o hk h0 ho) (Array.getElem?_eq_some_iff.1 h0).1).trans h0⟩
theorem zaR {W:World} {k:Nat} {o:Obj} (h0:W.heap[k]? =some o) (ho:o.isCells=false):¬isC W k:=fun ⟨o',h1,h2⟩=>by
 rw[h0]at h1;cases h1;rw[ho]at h2;cases h2
theorem zcy {B BB MB S7 N:Nat} {w0 W W2 W3:World} {hd:List Value} {vv xv cv rv vv3:Value} {tab tab3:List (List Int)} {ex:List ExecD} {i:Int} {word vs:List (List Int)} {S:Nat→Prop} (F:BF B BB MB S7 w0 hd) (h:zzBI B BB MB S7 N w0 hd W vv xv tab ex)
  (hw2:Below W.heap.size W W2) (hcv:OwnK (kFlat 7) 116 W.heap.size S W2 cv word) (hcn:word.length≤100) (P:PE B BB MB (N:Int) W2.heap.size W2 vv W3 vv3 tab3) (hrv:Lists (PR W2.heap.size BB MB W3 vv3) W3 rv vs) (hv1:1≤vs.length) (hv2:∀l∈vs,1≤l.length):
  OwnK kExec 111 w0.heap.size (fun b=>zzPC w0.heap.size BB MB W3 vv3 b∧xv.ownBlock≠some b) W3 xv ex∧kExec.rd (fun b=>(zzPC w0.heap.size BB MB W3 vv3 b∧xv.ownBlock≠some b)∧xv.ownBlock≠some b) W3 [.int .i64 i,cv,rv] (i,word,vs)∧w0.heap.size≤W3.heap.size∧Agree (BT BB MB S7 w0) W W3∧
  (Row W3 S7 35 (hd++[xv]))∧
  ∀g c W4,OwnK kExec 111 w0.heap.size (fun b=>zzPC w0.heap.size BB MB W3 vv3 b∧xv.ownBlock≠some b) W4 (.slice (some ⟨g,0,none⟩) (ex.length+1) c) (ex++[(i,word,vs)])→Below w0.heap.size W3 W4→(∀S:Nat→Prop,(∀k,xv.ownBlock=some k→¬S k)→Agree S W3 W4)→(xv.ownBlock=some g∨W3.heap.size≤g)→
   Row W4 S7 35 (hd++[xv])∧Agree (BT BB MB S7 w0) W W4∧zzBI B BB MB S7 N w0 hd (W4.setCell ⟨S7,9,none⟩ (.slice (some ⟨g,0,none⟩) (ex.length+1) c)) vv3 (.slice (some ⟨g,0,none⟩) (ex.length+1) c) tab3 (ex++[(i,word,vs)])∧
   KeepsFrom w0.heap.size W (W4.setCell ⟨S7,9,none⟩ (.slice (some ⟨g,0,none⟩) (ex.length+1) c))∧Agree (BT BB MB S7 w0) W (W4.setCell ⟨S7,9,none⟩ (.slice (some ⟨g,0,none⟩) (ex.length+1) c)):=by
 have hB0:B≤w0.heap.size:=by have:=F.s1;have:=F.s2;omega
 have hsz:w0.heap.size≤W.heap.size:=h.ag.size
 have hs2:=hw2.size
 have hs3:=P.size
 have A2:Agree (fun _=>True) W W2:=.of_ext hw2
 have A3:Agree (fun b=>keepsB BB MB vv b∧b≠W2.heap.size) W2 W3:=P.ag
 have A13:Agree (fun b=>keepsB BB MB vv b∧b≠W2.heap.size) W W3:=(A2.mono fun _ _=>trivial).trans A3
 have lowK:∀b,b<w0.heap.size→b≠BB→b≠MB→keepsB BB MB vv b∧b≠W2.heap.size:=fun b hb h1 h2=>⟨⟨h1,h2,fun e=>by have:=h.vo b e;omega⟩,by omega⟩
 have prK:∀b,PR w0.heap.size BB MB W vv b→keepsB BB MB vv b∧b≠W2.heap.size:=fun b hb=>⟨hb.2.2,by have:=hb.2.1;omega⟩
 have hog:∀g,vv3.ownBlock=some g→vv.ownBlock=some g∨W.heap.size≤g:=fun g hg=>by
  rcases P.og g hg with e | e
  ·exact .inl e
  ·exact .inr (by omega)
 have R3:Row W3 S7 35 (hd++[xv]):=h.row.agree A13 (lowK _ F.s2 F.sb F.sm)
 have O3:OwnK kExec 111 w0.heap.size (zzPC w0.heap.size BB MB W3 vv3) W3 xv ex:=h.own.slot A13 (fun q hq=>prK q (h.xo q hq)) (fun b hb=>prK b hb.1) fun b hb=>hb.next A13 (prK b hb.1) hog
 have AT:Agree (BT BB MB S7 w0) W W3:=A13.mono fun b hb=>lowK b hb.1 hb.2.1 hb.2.2.1
 have X3:∀q,xv.ownBlock=some q→PR w0.heap.size BB MB W3 vv3 q:=fun q hq=>(h.xo q hq).next A13.size hog
 have hcl:=hcv.lt
 have hcw:Sl (kFlat 7) (fun b=>(W.heap.size≤b∧b<W2.heap.size)∧isC W2 b) W2 cv word:=by
  refine OwnK.slS (base:=W.heap.size) (e:=116) ?_ (by omega) fun q hq=>⟨hcl q hq,hcv.isC q hq⟩
  obtain ⟨xs,ho,hr⟩:=hcv
  exact ⟨xs,ho,fun j hj=>hr j hj⟩
 have hstW2:BSt B BB MB (N:Int) W2 vv tab:=h.st.ext hw2
 have hnewK:∀b,W.heap.size≤b∧b<W2.heap.size→keepsB BB MB vv b∧b≠W2.heap.size:=fun b hb=>⟨h.st.fresh hb.1,by omega⟩
 have hD:kExec.rd (fun b=>zzPC w0.heap.size BB MB W3 vv3 b∧xv.ownBlock≠some b) W3 [.int .i64 i,cv,rv] (i,word,vs):=by
  refine ⟨cv,rv,rfl,(hcw.agree (A3.mono fun b hb=>hnewK b hb.1)).mono fun b hb=>⟨⟨⟨by omega,by omega,?_⟩,hb.2.agree A3 (hnewK b hb.1)⟩,fun e=>by have:=(h.xo b e).2.1;omega⟩,((hrv.isC hv1 hv2).mono fun b hb=>⟨⟨⟨by have:=hb.1.1;omega,hb.1.2⟩,hb.2⟩,fun e=>by have:=(h.xo b e).2.1;have:=hb.1.1;omega⟩)⟩
  have hk:=(hnewK b hb.1).1
  refine ⟨hk.1,hk.2.1,fun e=>?_⟩
  rcases P.og b e with e1 | e1
  ·exact hk.2.2 e1
  ·omega
 refine ⟨O3.self,kExec.mono hD fun b hb=>⟨hb,hb.2⟩,by omega,AT,R3,fun g c W4 h4 hb4 hag hg=>?_⟩
 have A4:Agree (fun b=>xv.ownBlock≠some b) W3 W4:=hag _ fun k hk h=>h hk
 have R4:Row W4 S7 35 (hd++[xv]):=R3.agree A4 fun e=>by have:=(X3 _ e).1;have:=F.s2;omega
 have lowX:∀b,b<w0.heap.size→xv.ownBlock≠some b:=fun b hb e=>by have:=(X3 b e).1;omega
 have AT4:Agree (BT BB MB S7 w0) W W4:=AT.trans (A4.mono fun b hb=>lowX b hb.1)
 have A5:Agree (fun b=>b≠S7) W4 (W4.setCell ⟨S7,9,none⟩ (.slice (some ⟨g,0,none⟩) (ex.length+1) c)):=.of_grown (zi _ _ _ _) fun b hb e=>hb (by cases e;rfl)
 have ST4:BSt B BB MB (N:Int) W4 vv3 tab3:=P.st.agree A4 (lowX _ F.b2) (lowX _ F.m2) fun q hq e=>(X3 q e).2.2.2.2 hq
 have hvo3:∀q,vv3.ownBlock=some q→w0.heap.size≤q:=fun q hq=>by
  rcases hog q hq with e | e
  ·exact h.vo q e
  ·omega
 have PC4:∀b,zzPC w0.heap.size BB MB W3 vv3 b→xv.ownBlock≠some b→zzPC w0.heap.size BB MB W4 vv3 b:=fun b hb hx=>hb.same A4 hx
 have hG4:=h4.isC g rfl
 have hgX:PR w0.heap.size BB MB W4 vv3 g:=by
  rcases hg with e | e
  ·exact (X3 g e).same A4.size
  ·obtain ⟨o,ho,_⟩:=hG4
   exact ⟨by omega,(Array.getElem?_eq_some_iff.1 ho).1,P.st.fresh e⟩
 refine ⟨R4,AT4,⟨h.ag.trans (AT4.trans (A5.mono fun b hb=>hb.2.2.2)),?_,ST4.agree A5 (fun e=>F.sb e.symm) (fun e=>F.sm e.symm) (fun q hq e=>by have:=hvo3 q hq;have:=F.s2;omega),?_,?_,fun q hq=>?_,hvo3⟩,?_,AT4.trans (A5.mono fun b hb=>hb.2.2.2)⟩
 ·refine Below.setCell ?_ (by simpa using F.s1) _
  exact ((h.be.trans (hw2.mono (by omega))).trans P.be).trans (hb4.mono hB0)
 ·have:=R4.set 9 (.slice (some ⟨g,0,none⟩) (ex.length+1) c)
  have e:(hd++[xv]).set 9 (.slice (some ⟨g,0,none⟩) (ex.length+1) c)=hd++[.slice (some ⟨g,0,none⟩) (ex.length+1) c]:=by
   rw[List.set_append_right _ _ (by rw[F.hd];exact Nat.le_refl _),F.hd];rfl
  rwa [e]at this
 ·have hgS:∀q,(Value.slice (some ⟨g,0,none⟩) (ex.length+1) c).ownBlock=some q→q≠S7:=fun q hq=>by
   have e:g=q:=by simpa[Value.ownBlock] using hq
   have:=hgX.1;have:=F.s2;omega
  exact h4.slot A5 hgS (fun b hb=>by have:=hb.1.1.1;have:=F.s2;omega) fun b hb=>(PC4 b hb.1 hb.2).same A5 (by have:=hb.1.1.1;have:=F.s2;omega)
 ·have e:g=q:=by simpa[Value.ownBlock] using hq
  rw[←e];exact hgX.same A5.size
 ·refine ((qW (B:=w0.heap.size) A2 fun _ _ _ _ _=>trivial).trans (qW A3 fun k o hk h0 ho=>?_)).trans ((qW A4 fun k o hk h0 ho e=>?_).trans ((KeepsOthers.setCell _ _ _).from _))
  ·have hn:=zaR h0 ho
   refine ⟨⟨fun e=>by have:=F.b2;omega,fun e=>by have:=F.m2;omega,fun e=>hn (hstW2.own.isC k e)⟩,fun e=>?_⟩
   have:=(Array.getElem?_eq_some_iff.1 h0).1;omega
  ·exact zaR h0 ho (O3.isC k e)
end Go.Proofs.YtfjlhjkjjbiliaaGreat
namespace Go.Proofs.YtfjlhjkjjbiliaaGreat
open Go.RowKit
theorem zce {n:Int} {p:Nat} {x:Int} (h:gAt n p x=0):0≤x∧((n≤(p:Int)→x=0)∧((p:Int)<n→x.toNat.testBit p=true∧x<((2 ^ n.toNat:Nat):Int))):=by
 unfold gAt at h
 by_cases h1:n≤(p:Int)
 ·rw[if_pos h1]at h
  by_cases h2:x=0
  ·subst h2;exact ⟨Int.le_refl _,fun _=>rfl,fun h=>by omega⟩
  ·rw[if_neg h2]at h;cases h
 ·rw[if_neg h1]at h
  by_cases h2:x<0∨((2 ^ n.toNat:Nat):Int) - 1<x
  ·rw[if_pos h2]at h;cases h
  ·rw[if_neg h2]at h
   by_cases h3:x.toNat.testBit p=true
   ·exact ⟨by omega,fun h=>by omega,fun _=>⟨h3,by omega⟩⟩
   ·rw[if_neg h3]at h;cases h
theorem zfv {n:Int} (h:n≤5):((2 ^ n.toNat:Nat):Int)≤32:=by
 have:n.toNat≤5:=by omega
 have h2:=Nat.pow_le_pow_right (n:=2) (by decide) this
 omega
structure RoundOK (n:Int) (r:List Int):Prop where
 len:r.length=7
 n0:nth r 0=n
 n1:1≤n∧n≤5
 low:∀q,q<5→0≤nth r (q+1)∧nth r (q+1)<32
 big:∀q:Nat,(q:Int)<n→(nth r (q+1)).toNat.testBit q=true∧nth r (q+1)<((2 ^ n.toNat:Nat):Int)
 f:0≤nth r 6∧nth r 6<((2 ^ n.toNat:Nat):Int)
theorem zaZ {l:List Int} (h:checkR l=0):(1≤nth l 0∧nth l 0≤5)∧(∀p,p<5→gAt (nth l 0) p (nth l (p+1))=0)∧0≤nth l 6∧nth l 6<((2 ^ (nth l 0).toNat:Nat):Int):=by
 unfold checkR at h
 by_cases h1:checkG l=0
 ·rw[if_pos h1]at h
  unfold checkG at h1
  by_cases h2:nth l 0<1∨5<nth l 0
  ·rw[if_pos h2]at h1;cases h1
  ·rw[if_neg h2]at h1
   unfold checkP at h
   rw[if_neg h2]at h
   by_cases h3:nth l 6<0∨((2 ^ (nth l 0).toNat:Nat):Int)≤nth l 6
   ·rw[if_pos h3]at h;cases h
   ·exact ⟨by omega,yX.1 h1,by omega,by omega⟩
 ·rw[if_neg h1]at h;exact absurd h h1
theorem zfp {l:List Int} {k i:Nat} (h:i<k):nth (l.take k) i=nth l i:=by
 unfold nth;rw[List.getD_eq_getElem?_getD,List.getD_eq_getElem?_getD,List.getElem?_take,if_pos h]
theorem zal {n:Int} {m:List Int} (hl:m.length=8) (h:checkR m=0) (hn:nth m 0=n):RoundOK n (m.take 7):=by
 obtain ⟨h1,h2,h3⟩:=zaZ h
 rw[hn]at h1 h2 h3
 have t:∀i,i<7→nth (m.take 7) i=nth m i:=fun i hi=>zfp hi
 refine ⟨by simp[hl],by rw[t 0 (by omega),hn],h1,fun q hq=>?_,fun q hq=>?_,by rw[t 6 (by omega)];exact h3⟩
 ·rw[t (q+1) (by omega)]
  have h4:=zce (h2 q hq)
  have h5:=zfv h1.2
  refine ⟨h4.1,?_⟩
  by_cases hqn:n≤(q:Int)
  ·rw[h4.2.1 hqn];decide
  ·have:=(h4.2.2 (by omega)).2;omega
 ·have hq5:q<5:=by omega
  rw[t (q+1) (by omega)]
  exact (zce (h2 q hq5)).2.2 hq
def Moves8 (st:Moves):Prop:=∀s,s<st.length→∀m∈nthM st s,m.length=8∧∀x∈m,WF x
theorem zbI {n:Int} {st:Moves} (hok:MovesOK n st) (h8:Moves8 st):∀k s,s<st.length→∀w∈wordsD st k s,∀r∈w,RoundOK n r
 | 0,s,hs,w,hw,r,hr=>by rw[List.mem_singleton.1 hw]at hr;simp at hr
 | k+1,s,hs,w,hw,r,hr=>by
  unfold wordsD at hw
  obtain ⟨m,hm,hw⟩:=List.mem_flatMap.1 hw
  obtain ⟨v,hv,rfl⟩:=List.mem_map.1 hw
  obtain ⟨i,hi,rfl⟩:=List.getElem_of_mem hm
  have ho:=(hok s hs).2 i hi
  rw[zU hi]at ho
  rcases List.mem_cons.1 hr with rfl | hr
  ·exact zal (h8 s hs _ hm).1 ho.1 ho.2.1
  ·exact zbI hok h8 k _ (by omega) v hv r hr
theorem qV {S:Nat→Prop} {w:World} {v:Value} {st:Moves} (h:Sl (kSl (kFlat 8)) S w v st):Moves8 st:=by
 obtain ⟨a,cap,rfl,_⟩:=h.form
 intro s hs m hm
 obtain ⟨v,_,hv⟩:=h.row hs
 have e:nthM st s=st[s]:=by simp[nthM,hs]
 rw[e]at hm
 obtain ⟨i,hi,rfl⟩:=List.getElem_of_mem hm
 obtain ⟨b,c,rfl,_⟩:=hv.form
 have:=hv.num hi
 rw[zU hi]at this
 exact ⟨this.1,this.2.1⟩
theorem zev {v:List Int} {n most:Int} (h:vecE v n most=0):(v.length:Int)=n∧∀x∈v,0≤x∧x<most:=by
 unfold vecE at h
 by_cases h1:(v.length:Int)=n
 ·rw[if_pos h1]at h
  by_cases h2:v.any (fun x=>decide (x<0)||decide (most≤x))=true
  ·rw[if_pos h2]at h;cases h
  ·refine ⟨h1,fun x hx=>?_⟩
   have:¬(decide (x<0)||decide (most≤x))=true:=fun h3=>h2 (List.any_eq_true.2 ⟨x,hx,h3⟩)
   simp at this
   omega
 ·rw[if_neg h1]at h;cases h
theorem zcn {n ins outs:Int} {l:List CaseD} {k:Nat} (h:caseE n ins outs l k=0):vecE (nthC l k).inn n ins=0∧vecsE n outs (nthC l k)=0:=by
 unfold caseE at h
 by_cases h1:vecE (nthC l k).inn n ins=0
 ·rw[if_pos h1]at h
  split at h
  ·cases h
  ·exact ⟨h1,h⟩
 ·rw[if_neg h1]at h;exact absurd h h1
structure ProbOK (p:ProbD) (N:Nat):Prop where
 n:p.n=N
 n1:1≤N∧N≤5
 an:p.an=N
 c1:1≤p.cs.length∧p.cs.length≤1024
 inn:∀k,k<p.cs.length→(nthC p.cs k).inn.length=N∧∀x∈(nthC p.cs k).inn,0≤x∧x<8
 mv:MovesOK p.n p.st
 s1:1≤p.st.length∧p.st.length≤256
 r:0≤p.rounds∧p.rounds≤6
 t:checkT p.n p.ins p.outs p.cs=0
 a:checkA p.an p.st=0
theorem probOK {p:ProbD} (h:checkPr p=0):∃N,ProbOK p N:=by
 obtain ⟨h1,h2,h3,h4,h5⟩:=qR h
 have ht:=qo h1
 have ha:=qI h2
 obtain ⟨N,hN⟩:∃N:Nat,p.n=N:=⟨p.n.toNat,by omega⟩
 refine ⟨N,hN,by omega,by omega,⟨ht.2.2.2.2.2.2.1,ht.2.2.2.2.2.2.2.1⟩,fun k hk=>?_,by rw[h3];exact ha.2.2.2.2.2.1,⟨ha.2.2.1,ha.2.2.2.1⟩,⟨h4,h5⟩,h1,h2⟩
 have:=zev (zcn (ht.2.2.2.2.2.2.2.2 k hk)).1
 exact ⟨by omega,fun x hx=>by have:=this.2 x hx;omega⟩
theorem ProbOK.words {p:ProbD} {N:Nat} (h:ProbOK p N) (h8:Moves8 p.st) (k:Nat):∀w∈wordsD p.st k 0,∀r∈w,RoundOK p.n r:=zbI h.mv h8 k 0 (by have:=h.s1;omega)
end Go.Proofs.YtfjlhjkjjbiliaaGreat
