/- Part of the proof that the laws answer true for every input. -/
import Derived.Test.YtfjlhjkjjbiliaaGreatPXa40
import Derived.Test.YtfjlhjkjjbiliaaGreatPXa36
import Derived.Test.YtfjlhjkjjbiliaaGreatPXa39
import Derived.Test.YtfjlhjkjjbiliaaGreatPXa08
set_option linter.unusedSimpArgs false
set_option linter.unnecessarySimpa false
set_option linter.unusedVariables false
set_option maxRecDepth 100000
set_option maxHeartbeats 40000000
namespace Go.Proofs.YtfjlhjkjjbiliaaGreat
open Go.RowKit
attribute [local go_sem ↓] Go.wp_at_zero Go.wp_at_succ
theorem foldCast (l:List Nat) (y:Nat):((l++[y]).map fun z:Nat=>(z:Int)).map (Value.int .i64)=(l.map fun z:Nat=>(z:Int)).map (Value.int .i64)++[.int .i64 y]:=by simp
theorem xI {A:Nat→Prop} {w:World} {g:Nat} {s:SysF} {ch:List Int} (h:ScnV A w g s ch):
  Calls Tryz.prog 33 #[.pointer (some ⟨g,0,none⟩)] w (Post w fun w' r=>Ints (fun b=>w.heap.size≤b) w' r (keys (quoE s.tab ch s.K) s.tab.length)):=by
 have KS:Hid (∀S3 vl L u x,L.length=s.tab.length→u<s.tab.length→x<s.tab.length→∀W,Below w.heap.size w W→Ints S3 W vl L→Calls Tryz.prog 39 #[.pointer (some ⟨g,0,none⟩),vl,.int .i64 u,.int .i64 x] W (Post W fun _ r=>r=.bool (samB s.tab ch (nth L) u x))):=zhd fun S3 vl L u x hL hu hx W hW hi=>Yt (h.ext hW) hi hL hu hx
 obtain ⟨ca,cc,sa,sc,ta,tc,xa,xc,a2,c2,la,lc,mb,R,_,_,ht,_,_⟩:=h.mem
 obtain ⟨hg,hlen,hfew⟩:=h.dat
 obtain ⟨_,_,hee,tad,_⟩:=ht.form2
 cases hee
 obtain ⟨i0,hi,hz⟩:=zE zJ
 have HQ:=zhd (zC Tryz.underlying30 hi hz tad)
 have HTC:Hid (∀u,u<s.tab.length→∃y:List Int,y.length=8∧nth y 1=(rndT s.tab u:Int)∧w.cell? (adr ta (u * 8))=some (.int .i64 (nth y 0))∧∀i,i<8→w.cell? ⟨(adr ta (u * 8)).block,(adr ta (u * 8)).off+i,none⟩=some (.int .i64 (nth y i))):=zhd fun u hu=>by
  have:=ht.nums (k:=u) hu (by decide)
  exact ⟨nthL s.tab u,qK hg.tab hu,(yi hg.tab hu).1,this.1,this.2⟩
 have HTB:=zhd hg.tab
 have HND:=zhd hg.nodup
 have HRN:Hid (∀u,u<s.tab.length→rndT s.tab u≤s.K):=zhd fun u hu=>(yi HTB.out hu).2
 have hK6:=hg.K6
 have hrd:=hg.rnd
 have HFIN:Hid (∀L,LabI s.tab ch s.K (s.K+1) 0 L→L=keys (quoE s.tab ch s.K) s.tab.length∧(∀x∈L,WF x)∧L.length=s.tab.length):=zhd fun L hL=>by
  have e:=hL.done
  refine ⟨e,?_,hL.len⟩
  rw[e];exact zdc ch s.K (by omega) HND.out HTB.out
 have HR6:Hid (∀W,Below w.heap.size w W→W.cell? ⟨g,6,none⟩=some (.int .i64 (s.K:Int))∧W.cell? ⟨g,8,none⟩=some (.slice ta s.tab.length tc)∧g<W.heap.size):=zhd fun W hW=>⟨by have:=(R.ext hW).zc 6 rfl;rw[hrd]at this;exact this,(R.ext hW).zc 8 rfl,(R.ext hW).lt⟩
 obtain ⟨qL,hqL⟩:∃l,l=keys (quoE s.tab ch s.K) s.tab.length:=⟨_,rfl⟩
 rw[←hqL]at HFIN ⊢
 obtain ⟨T,hT⟩:∃T,T=s.tab:=⟨_,rfl⟩
 obtain ⟨K,hK⟩:∃K,K=s.K:=⟨_,rfl⟩
 rw[←hT]at KS HQ HTC HTB HND HRN HFIN hfew HR6
 rw[←hK]at HRN hK6 HFIN HTB HR6
 have hmk:=run_make_row' 36 3 (.int .i64 0) 8 Tryz.underlying36 info3 rfl .i64 .i64 T.length (by omega) (by omega)
 have ex:=ze w (.cells (madeCells #[.int .i64 0] T.length) 3)
 have RL:=Row.made w (.int .i64 0) T.length 3
 rw[show List.replicate T.length (Value.int .i64 0)=(List.replicate T.length (0:Int)).map (Value.int .i64) by simp]at RL
 have HZ0:=zhd (LabI.zero T ch K)
 obtain ⟨_,g8,lg⟩:=HR6.out w (.refl _ _)
 obtain ⟨g6',g8',lg'⟩:=HR6.out _ ex
 clear h ht R tad hi hz hg hlen hqL hT hK hrd
 obtain ⟨B2,hB2⟩:∃B2,B2=w.heap.size:=⟨_,rfl⟩
 rw[←hB2]at RL
 have HB2:=zhd hB2
 have HBW:Hid (w.heap.size≤B2):=zhd (by omega)
 clear hB2
 go_enter Tryz.func33,Tryz.ntmps33
 go_wp2
 rw[←HB2.out]
 clear hmk g8 lg g6' g8' lg'
 have HDK:(K+1=0∧Value.int .i64 (K:Int)=.int .i64 (-1))∨∃k,K+1=k+1∧Value.int .i64 (K:Int)=.int .i64 (k:Int):=.inr ⟨K,rfl,rfl⟩
 go_loopw [4,5,6,7,8,10] (fun kv _ _ _ _ _ wr=>∃(j:Nat) (L:List Int),j≤K+1∧((j=0∧kv=.int .i64 (-1))∨∃k:Nat,j=k+1∧kv=.int .i64 k)∧Hid (LabI T ch K (K+1 - j) 0 L)∧Below w.heap.size w wr∧Row wr B2 3 ((L).map (Value.int .i64))) (fun kv _ _ _ _ _ _=>(intOf kv+1).toNat)
 case atStart=>exact ⟨K+1,_,Nat.le_refl _,HDK,zhd (by rw[Nat.sub_self];exact HZ0.out),ex,RL⟩
 case round=>
  clear ex RL HZ0 HDK
  obtain ⟨j,L,hj,hjk,HL,ex,RL⟩:=hrel
  rcases hjk with ⟨rfl,rfl⟩ | ⟨k,rfl,rfl⟩
  ·have HFI:=zhd (HFIN.out L HL.out)
   have HI:Hid (Ints (fun b=>w.heap.size≤b) wr (.slice (some ⟨B2,0,none⟩) T.length T.length) qL):=zhd (by
    have:=RL.ints (by rw[HFI.out.2.2];unfold maxLen;omega) HFI.out.2.1
    rw[HFI.out.2.2,HFI.out.1]at this
    exact this.mono fun b hb=>by have:=HBW.out;omega)
   have HEX:=zhd ex
   clear ex RL HL hj
   go_wp2
   go_ret
   exact .mk HEX.out HI.out
  obtain ⟨m,hm'⟩:∃m,m=K - k:=⟨_,rfl⟩
  have hmk:k+m=K:=by omega
  rw[show K+1 - (k+1)=m by omega]at HL
  have HM1:Hid (K+1 - k=m+1):=zhd (by omega)
  have HDN:=zhd (zbX k)
  obtain ⟨_,g8,lg⟩:=HR6.out wr ex
  clear hm'
  go_wp2
  clear g8 lg
  go_loopw [5,6,7,8,10,36] (fun fv _ _ _ _ iv wr=>∃(v:Nat) (L:List Int) (fa:Option Addr) (fn fc:Nat),v≤T.length∧iv=.int .i64 v∧fv=.slice fa fn fc∧Hid (LabI T ch K m v L)∧Below w.heap.size w wr∧Row wr B2 3 ((L).map (Value.int .i64))∧Hid (wr.ownsRow (B2+1) 3 1 (.slice fa fn fc) fn (((firL T ch K m v).map fun z:Nat=>(z:Int)).map (Value.int .i64)))∧Hid (fn=(firL T ch K m v).length)) (fun _ _ _ _ _ iv _=>T.length - (intOf iv).toNat)
  case atStart=>exact ⟨0,L,none,0,0,Nat.zero_le _,rfl,rfl,HL,ex,RL,zhd (World.ownsRow_nil _ _ _ _),zhd rfl⟩
  case round=>
   clear ex RL HL L
   obtain ⟨v,L,fa,fn,fc,hv,rfl,rfl,HL,ex,RL,HF,HFL⟩:=hrel
   by_cases hlt:v<T.length
   case neg=>
    obtain rfl:v=T.length:=by omega
    have HL2:=zhd HL.out.start
    go_wp2
    go_roundw
    case rel=>exact ⟨k,L,by omega,HDN.out,by rw[HM1.out];exact HL2,ex,RL⟩
    case measure=>simp[intOf]
   have vq:=HQ.out v hlt
   obtain ⟨y,hy8,hy1,hy0,hyr⟩:=HTC.out v hlt
   have u0:=zj hy0 ex
   have u1:=zj (hyr 1 (by decide)) ex
   have u2:=zj (hyr 2 (by decide)) ex
   have u3:=zj (hyr 3 (by decide)) ex
   have u4:=zj (hyr 4 (by decide)) ex
   have u5:=zj (hyr 5 (by decide)) ex
   have u6:=zj (hyr 6 (by decide)) ex
   have u7:=zj (hyr 7 (by decide)) ex
   have bv:=World.block_lt_of_cell? _ _ u0
   have HY1:=zhd hy1
   have HRV:=zhd (HRN.out v hlt)
   have HSK:=zhd (fun h=>HL.out.skip (j:=v) h)
   have HFS:=zhd (fun h=>zeQ (T:=T) (ch:=ch) (K:=K) (m:=m) (j:=v) h)
   obtain ⟨rv,hrv⟩:∃r,r=rndT T v:=⟨_,rfl⟩
   rw[←hrv]at HRV HSK HFS HY1
   have HRE:=zhd hrv
   have eV:=ze wr (.cells #[.int .i64 (nth y 0),.int .i64 (nth y 1),.int .i64 (nth y 2),.int .i64 (nth y 3),.int .i64 (nth y 4),.int .i64 (nth y 5),.int .i64 (nth y 6),.int .i64 (nth y 7)] 72)
   have RV:=zh wr [.int .i64 (nth y 0),.int .i64 (nth y 1),.int .i64 (nth y 2),.int .i64 (nth y 3),.int .i64 (nth y 4),.int .i64 (nth y 5),.int .i64 (nth y 6),.int .i64 (nth y 7)] 72
   have exv:=zb ex eV
   have RLv:=RL.ext eV
   have HFv:=zhd (ye HF.out eV)
   clear hrv hy8 hy1 hy0 hyr RL HF
   go_upto_region 9 with fail
   obtain ⟨wv,hwv⟩:∃wv,wv=wr.alloc (.cells #[.int .i64 (nth y 0),.int .i64 (nth y 1),.int .i64 (nth y 2),.int .i64 (nth y 3),.int .i64 (nth y 4),.int .i64 (nth y 5),.int .i64 (nth y 6),.int .i64 (nth y 7)] 72):=⟨_,rfl⟩
   obtain ⟨VB,hVB⟩:∃VB,VB=wr.heap.size:=⟨_,rfl⟩
   rw[←hwv]at RV exv RLv HFv ⊢
   rw[←hVB]at RV ⊢
   have v1:=RV.zc 1 rfl
   rw[HY1.out]at v1
   have lv:=RV.lt
   clear hwv hVB u0 u1 u2 u3 u4 u5 u6 u7 bv vq ex eV RV wr
   by_cases hrk:rv=k
   case neg=>
    have d1:((rv:Int) !=(k:Int))=true:=by rw[bne_iff_ne];omega
    have HL2:=zhd (HSK.out (by omega))
    rw[←HFS.out (by omega)]at HFv HFL
    clear hrk HSK HFS
    go_wp2
    go_roundw
    case rel=>exact ⟨v+1,L,fa,fn,fc,by omega,by go_num,rfl,HL2,exv,RLv,HFv,HFL⟩
    case measure=>simp[intOf];omega
   have d1:((rv:Int) !=(k:Int))=false:=by rw[hrk];simp
   have HVK:Hid (rndT T v+m=K):=zhd (by rw[←HRE.out];omega)
   have hLl:=HL.out.len
   have hfl:fn≤v:=by rw[HFL.out];exact zgb _ _ _ _ _
   have cv:=rowInt RLv (k:=v) (by omega)
   have fv:=RLv.free v
   have lb:=RLv.lt
   have RL2:=rowSet RLv v v
   have ex2:=exv.setCell (p:=⟨B2,v,none⟩) (by have:=HBW.out;simpa using this) (.int .i64 v)
   have HF2:=zhd (zH (S:=fun b=>B2+1≤b) HFv.out (.of_grown (zi wv B2 v (.int .i64 v)) fun b hb e=>by injection e with e;omega) fun q hq=>(HFv.out.lt q hq).1)
   have qv:=Zw B2 T.length T.length hlt
   have HLN:=zhd hLl
   clear hrk hLl exv RLv HFv HSK HFS
   go_wp2
   obtain ⟨wz,hwz⟩:∃wz,wz=wv.setCell ⟨B2,v,none⟩ (.int .i64 v):=⟨_,rfl⟩
   rw[←hwz]at RL2 ex2 HF2 ⊢
   clear hwz cv fv lb v1 lv d1 wv
   have HMAXv:Hid (∀y∈L,WF y):=zhd fun y hy=>by
    obtain ⟨i,hi,rfl⟩:=List.getElem_of_mem hy
    have h3:=HL.out.at' i (by rw[←HL.out.len];exact hi)
    rw[yh hi]at h3
    rw[h3]
    exact zfJ HTB.out HND.out (by omega) (by rw[←HL.out.len];exact hi)
   have HLV:Hid ((L.set v (v:Int)).length=T.length∧(∀y∈L.set v (v:Int),WF y)∧LabA T ch K m (L.set v (v:Int))):=zhd ⟨by rw[List.length_set];exact HL.out.len,fun y hy=>by
    rcases List.mem_or_eq_of_mem_set hy with h1 | h1
    ·exact HMAXv.out y h1
    ·rw[h1];exact WF.small (by omega),HL.out.a.set hlt HVK.out _⟩
   have HSS:Hid (∀z:Int,(L.set v (v:Int)).set v z=L.set v z):=zhd fun z=>List.set_set ..
   have HFA:=zhd (fun i=>(zbr (T:=T) (ch:=ch) (K:=K) (m:=m) (j:=v) (w:=i)).1)
   have HHIT:=zhd (fun w' (h1:w'∈firL T ch K m v) h2=>zfS HTB.out HND.out hlt h1 h2)
   have HNON:=zhd (fun h=>zfg (ch:=ch) HTB.out HND.out hlt HVK.out h)
   have HSR:Hid (∀z,z<T.length→samB T ch (nth (L.set v (v:Int))) v z=samB T ch (quoF T ch K m) v z):=zhd fun z hz=>zeI HTB.out HLV.out.2.2 HVK.out hlt hz
   have HSTP:Hid (LabI T ch K m (v+1) (L.set v ((lstV T ch (quoF T ch K m) v:Nat):Int))):=zhd (HL.out.step HVK.out hlt)
   have HOLD:=zhd (fun h=>zfU (T:=T) (ch:=ch) (K:=K) (m:=m) (j:=v) h)
   have HNEW:=zhd (fun h=>zfP (T:=T) (ch:=ch) (K:=K) (m:=m) (j:=v) HVK.out h)
   obtain ⟨Fl,hFl⟩:∃l,l=firL T ch K m v:=⟨_,rfl⟩
   rw[←hFl]at HF2 HFL HFA HHIT HNON HOLD HNEW
   obtain ⟨lst,hlst⟩:∃z,z=lstV T ch (quoF T ch K m) v:=⟨_,rfl⟩
   rw[←hlst]at HHIT HNON HSTP HOLD HNEW
   obtain ⟨Lv,hLv⟩:∃l,l=L.set v (v:Int):=⟨_,rfl⟩
   rw[←hLv]at RL2 HLV HSS HSR
   have HLVE:=zhd hLv
   have HIXF:Hid (∀(S:Nat→Prop) W (h:W.ownsRow (B2+1) 3 1 (.slice fa fn fc) fn ((Fl.map fun z:Nat=>(z:Int)).map (Value.int .i64))),Ints (fun b=>B2+1≤b) W (.slice fa fn fc) (Fl.map fun z:Nat=>(z:Int))):=zhd fun S W h=>Ints.of_own h fun y hy=>by
    obtain ⟨z,hz,rfl⟩:=List.mem_map.1 hy
    have:=(HFA.out z hz).1
    exact WF.small (by omega)
   clear hFl hlst hLv HL HMAXv
   go_loopw [8,10,51] (fun bv _ iv wi=>∃i:Nat,i≤fn∧iv=.int .i64 i∧bv=.bool false∧Hid (∀z∈Fl.take i,samB T ch (quoF T ch K m) v z=false)∧Below w.heap.size w wi∧Row wi B2 3 ((Lv).map (Value.int .i64))∧Hid (wi.ownsRow (B2+1) 3 1 (.slice fa fn fc) fn ((Fl.map fun z:Nat=>(z:Int)).map (Value.int .i64)))) (fun _ _ iv _=>fn - (intOf iv).toNat)
   case atStart=>exact ⟨0,Nat.zero_le _,rfl,rfl,zhd fun z hz=>by simp at hz,ex2,RL2,HF2⟩
   case round=>
    clear ex2 RL2 HF2
    obtain ⟨i,hi,rfl,rfl,HJ,ex,RL,HF⟩:=hrel
    by_cases hil:i<fn
    case neg=>
     obtain rfl:i=fn:=by omega
     have HE:Hid (lst=v):=zhd (HNON.out fun z hz=>HJ.out z (by rw[HFL.out,List.take_length];exact hz))
     have HL2:Hid (LabI T ch K m (v+1) Lv):=zhd (by rw[HLVE.out,←HE.out];rw[HE.out];have:=HSTP.out;rw[HE.out]at this;exact this)
     have HN2:=zhd (HNEW.out HE.out)
     have hsz:=RL.lt
     have HRL:=zhd RL
     clear RL
     go_wp2_with (at_builtin;refine zP rfl (.tmp 67) (.tmp 69) 36 rfl 3 _ 8 Tryz.underlying36 zD rfl (B2+1) _ _ _ rfl HF.out (.int .i64 v) rfl rfl (by omega) (by omega) (by omega) ?_;intro g' c' w5 hown5 hbel5 hag5 hat5)
     have HF5:Hid (w5.ownsRow (B2+1) 3 1 (.slice (some ⟨g',0,none⟩) (i+1) c') (i+1) (((firL T ch K m (v+1)).map fun z:Nat=>(z:Int)).map (Value.int .i64))):=zhd (by rw[HN2.out,foldCast];exact hown5)
     have HFL5:Hid (i+1=(firL T ch K m (v+1)).length):=zhd (by rw[HN2.out,List.length_append,←HFL.out];rfl)
     have RL5:=HRL.out.agree (S:=fun b=>b=B2) (.of_below hbel5 fun b hb _=>by omega) rfl
     have ex5:=ex.trans (hbel5.mono (by have:=HBW.out;omega))
     clear HRL hown5 hbel5 hag5 hat5 ex HF
     go_wp2
     go_roundw
     case rel=>exact ⟨v+1,Lv,_,_,_,by omega,by go_num,rfl,HL2,ex5,RL5,HF5,HFL5⟩
     case measure=>simp[intOf];omega
    have hi':=HIXF.out (fun _=>True) wr HF.out
    have hil2:i<(Fl.map fun z:Nat=>(z:Int)).length:=by rw[List.length_map,←HFL.out];exact hil
    have hilF:i<Fl.length:=by rw[←HFL.out];exact hil
    have qi:∀W:World,(Instr.indexAt 36 (.slice fa fn fc) (.int .i64 i)).run Tryz.prog W=.ok (.pointer (some (adr fa i))) W:=fun W=>by
     have:=(show Ints (fun b=>B2+1≤b) wr (.slice fa (Fl.map fun z:Nat=>(z:Int)).length fc) (Fl.map fun z:Nat=>(z:Int)) by rw[List.length_map,←HFL.out];exact hi').idx hil2 W
     rw[List.length_map,←HFL.out]at this;exact this
    have ci:=hi'.cellN hil2
    rw[yh hil2,List.getElem_map]at ci
    have hzm:=List.getElem_mem hilF
    have HTK:Hid (∀z∈Fl.take (i+1),z∈Fl.take i∨z=Fl[i]):=zhd fun z hz=>by
     rw[←List.take_append_getElem hilF,List.mem_append,List.mem_singleton]at hz;exact hz
    obtain ⟨z,hz⟩:∃z,z=Fl[i]:=⟨_,rfl⟩
    rw[←hz]at ci hzm HTK
    have hzT:z<T.length:=by have:=(HFA.out z hzm).1;omega
    have KS2:=zhd (KS.out (fun b=>b=B2) (.slice (some ⟨B2,0,none⟩) T.length T.length) Lv v z HLV.out.1 hlt hzT wr ex (by
     have:=RL.ints (by rw[HLV.out.1];unfold maxLen;omega) HLV.out.2.1
     rw[HLV.out.1]at this;exact this))
    rw[HSR.out z hzT]at KS2
    have HHZ:=zhd (HHIT.out z hzm)
    have HZV:Hid (z<v):=zhd (HFA.out z hzm).1
    obtain ⟨b,hb⟩:∃b,b=samB T ch (quoF T ch K m) v z:=⟨_,rfl⟩
    rw[←hb]at KS2 HHZ
    have HBZ:=zhd hb
    have bi:=World.block_lt_of_cell? _ _ ci
    have lB:=RL.lt
    clear hb hz hzm hi' hil2 hilF
    go_wp2_with fail
    refine KS2.out.mono ?_
    rintro _ w1 ⟨_,rfl,hb1,rfl⟩
    replace RL:=RL.ext hb1
    replace ex:=zb ex hb1
    replace HF:=zhd (ye HF.out hb1)
    clear hb1 KS2 ci bi lB qi
    cases b with
    | false=>
     have HJ2:Hid (∀q∈Fl.take (i+1),samB T ch (quoF T ch K m) v q=false):=zhd fun q hq=>by
      rcases HTK.out q hq with h1 | h1
      ·exact HJ.out q h1
      ·rw[h1];exact HBZ.out.symm
     go_wp2
     go_roundw
     case rel=>exact ⟨i+1,by omega,by go_num,rfl,HJ2,ex,RL,HF⟩
     case measure=>simp[intOf];omega
    | true=>
     have HE:Hid (lst=z):=zhd (HHZ.out rfl)
     have HL2:Hid (LabI T ch K m (v+1) (L.set v (z:Int))):=zhd (by have:=HSTP.out;rw[HE.out]at this;exact this)
     have HFO:=HOLD.out (by rw[HE.out];have:=HZV.out;omega)
     rw[←HFO]at HF HFL
     have cv:=rowInt RL (k:=v) (by rw[HLV.out.1];exact hlt)
     have fv:=RL.free v
     have lb:=RL.lt
     have RL2:=rowSet RL v z
     rw[HSS.out]at RL2
     have ex2:=ex.setCell (p:=⟨B2,v,none⟩) (by have:=HBW.out;simpa using this) (.int .i64 z)
     have HF2:=zhd (zH (S:=fun b=>B2+1≤b) HF.out (.of_grown (zi w1 B2 v (.int .i64 z)) fun b hb e=>by injection e with e;omega) fun q hq=>(HF.out.lt q hq).1)
     clear HFO RL ex HF
     go_wp2
     go_roundw
     case rel=>exact ⟨v+1,_,fa,fn,fc,by omega,by go_num,rfl,HL2,ex2,RL2,HF2,HFL⟩
     case measure=>simp[intOf];omega
noncomputable def key52:KeyB Tryz.prog 3 Int:=intKey Tryz.underlying3
def fstM (cl:List Int) (k:Nat) (c:Int):Option Value:=if 0≤minT (fun w=>decide (nth cl w=c)) 0 k then some (.int .i64 (minT (fun w=>decide (nth cl w=c)) 0 k)) else none
theorem xz (cl:List Int) (k:Nat) (c:Int):(fstM cl k c=none∧∀j,j<k→nth cl j≠c)∨∃t:Nat,t<k∧fstM cl k c=some (.int .i64 t)∧nth cl t=c∧∀j,j<t→nth cl j≠c:=by
 unfold fstM
 rcases minF (fun w=>decide (nth cl w=c)) k 0 with ⟨h,h1⟩ | ⟨t,h1,h2,h3,h4,h5⟩
 ·left
  rw[h,if_neg (by decide)]
  exact ⟨rfl,fun j hj=>of_decide_eq_false (h1 j (by omega) (by omega))⟩
 ·right
  rw[h1,if_pos (by omega)]
  exact ⟨t,by omega,rfl,of_decide_eq_true h4,fun j hj=>of_decide_eq_false (h5 j (by omega) hj)⟩
theorem zbx {cl:List Int} {k t:Nat} {c:Int} (ht:t<k) (hc:nth cl t=c) (hl:∀j,j<t→nth cl j≠c):fstM cl k c=some (.int .i64 t):=by
 rcases xz cl k c with ⟨_,h⟩ | ⟨t',h1,h2,h3,h4⟩
 ·exact absurd hc (h t ht)
 ·have:t'=t:=by
   rcases Nat.lt_trichotomy t' t with h | h | h
   ·exact absurd h3 (hl _ h)
   ·exact h
   ·exact absurd hc (h4 _ h)
  rw[h2,this]
theorem zeC {cl:List Int} {k:Nat} {c:Int} (h:∀j,j<k→nth cl j≠c):fstM cl k c=none:=by
 rcases xz cl k c with ⟨h1,_⟩ | ⟨t',h1,h2,h3,h4⟩
 ·exact h1
 ·exact absurd h3 (h _ h1)
theorem zep (cl:List Int):fstM cl 0=fun _=>none:=by
 funext c;exact zeC fun j hj=>by omega
theorem zdf {cl:List Int} {v t:Nat} (ht:t≤v) (hc:nth cl t=nth cl v) (hl:∀j,j<t→nth cl j≠nth cl v):fstC cl v=t:=by
 obtain ⟨a1,a2,a3⟩:=Zf cl v
 rcases Nat.lt_trichotomy (fstC cl v) t with h | h | h
 ·exact absurd a2 (hl _ h)
 ·exact h
 ·exact absurd hc (a3 _ h)
theorem zc9 (cl:List Int) (k:Nat):(fstM cl k (nth cl k)=none∧fstC cl k=k∧(fun z=>if z=nth cl k then some (Value.int .i64 (k:Int)) else fstM cl k z)=fstM cl (k+1))∨∃t:Nat,t<k∧fstM cl k (nth cl k)=some (.int .i64 t)∧fstC cl k=t∧fstM cl (k+1)=fstM cl k:=by
 have keep:∀z,z≠nth cl k→fstM cl (k+1) z=fstM cl k z:=fun z hz=>by
  rcases xz cl k z with ⟨h1,h2⟩ | ⟨t,h1,h2,h3,h4⟩
  ·rw[h1]
   exact zeC fun j hj=>by
    by_cases e:j=k
    ·subst e;exact fun e=>hz e.symm
    ·exact h2 j (by omega)
  ·rw[h2];exact zbx (by omega) h3 h4
 rcases xz cl k (nth cl k) with ⟨h1,h2⟩ | ⟨t,h1,h2,h3,h4⟩
 ·left
  refine ⟨h1,zdf (Nat.le_refl _) rfl h2,?_⟩
  funext z
  by_cases e:z=nth cl k
  ·rw[if_pos e,e];exact (zbx (by omega) rfl h2).symm
  ·rw[if_neg e];exact (keep z e).symm
 ·right
  refine ⟨t,h1,h2,zdf (by omega) h3 h4,?_⟩
  funext z
  by_cases e:z=nth cl k
  ·rw[e,h2];exact zbx (by omega) h3 h4
  ·exact keep z e
def ofS2 (l:List Int):List Int×Int:=if 65536<l.length then ([],5) else (labs l,0)
theorem zey {S:Nat→Prop} {w:World} {v:Value} {l:List Int} (h:Ints S w v l):
  Calls Tryz.prog 26 #[v] w (Post w (RetL w.heap.size (ofS2 l))):=by
 have h0:=h
 obtain ⟨a,cap,rfl,_⟩:=h0
 go_enter Tryz.func26,Tryz.ntmps26
 by_cases hbig:65536<l.length
 ·go_wp2_with fail
  go_ret2
  exact .same (.nil _ _ rfl (by simp[ofS2,hbig]))
 ·go_wp2_with fail
  refine (Yk h (by omega)).mono ?_
  rintro _ w1 ⟨v,rfl,hb1,hv⟩
  go_wp2
  go_ret2
  exact .mk hb1 (.mk hv (by simp[ofS2,hbig]))
theorem zgC {T:List (List Int)} {ch:List Int} {K:Nat} (h:T.length≤120):ofS2 (keys (quoE T ch K) T.length)=(labs (keys (quoE T ch K) T.length),0):=by
 unfold ofS2;rw[if_neg (by rw[length_keys];omega)]
theorem xt {S:Nat→Prop} {w:World} {v vch:Value} {s:SysF} {ch:List Int} (h:SysV S w v s) (hf:PFew s.p) (h2:Ints S w vch ch) (hm:s.tab.length≤120):
  Calls Tryz.prog 13 #[v,.agg #[vch]] w (Post w (ClaR w.heap.size s ch)):=by
 have KO:Hid (∀W,Below w.heap.size w W→Calls Tryz.prog 32 #[v,.agg #[vch]] W (Post W (OfQ W.heap.size (fun b=>S b∧b<W.heap.size) s ch))):=zhd fun W hW=>YR (h.ext hW) hf (h2.ext hW) hm
 have HO:Hid (∀w' u,ruleE s ch=0→Ints (fun b=>w.heap.size≤b) w' u (quoL s ch)→ClaR w.heap.size s ch w' (.tuple #[u,.int .i64 0])):=zhd fun w' u h0 hu=>.inl ⟨h0,u,rfl,hu⟩
 have HE:Hid (∀w',ruleE s ch≠0→ClaR w.heap.size s ch w' (.tuple #[.slice none 0 0,.int .i64 (ruleE s ch)])):=zhd fun w' h0=>.inr ⟨h0,rfl⟩
 have KQ:Hid (∀(A:Nat→Prop) W g,ScnV A W g s ch→Calls Tryz.prog 33 #[.pointer (some ⟨g,0,none⟩)] W (Post W fun w' r=>Ints (fun b=>W.heap.size≤b) w' r (keys (quoE s.tab ch s.K) s.tab.length))):=zhd fun A W g hs=>xI hs
 have KP:Hid (∀S3 W u,Ints S3 W u (keys (quoE s.tab ch s.K) s.tab.length)→Calls Tryz.prog 26 #[u] W (Post W (RetL W.heap.size (quoL s ch,0)))):=zhd fun S3 W u hu=>by
  have:=zey hu
  rw[zgC hm]at this;exact this
 obtain ⟨CR,hCR⟩:∃CR,CR=ClaR w.heap.size s ch:=⟨_,rfl⟩
 rw[←hCR]at HO HE ⊢
 obtain ⟨kl,hkl⟩:∃l,l=keys (quoE s.tab ch s.K) s.tab.length:=⟨_,rfl⟩
 rw[←hkl]at KQ KP
 obtain ⟨ql,hql⟩:∃l,l=quoL s ch:=⟨_,rfl⟩
 rw[←hql]at KP HO
 obtain ⟨vc,vs,vt,vx,rfl,hc,hs,ht,hx⟩:=h
 obtain ⟨ca,cc,rfl,_⟩:=hc.form
 obtain ⟨sa,sc,rfl,_⟩:=hs.form
 obtain ⟨ta,tc,rfl,_⟩:=ht.form
 obtain ⟨xa,xc,rfl,_⟩:=hx.form
 obtain ⟨a2,c2,rfl,_⟩:=h2.form
 have ex:=zg (ze w (.cells #[.int .i64 s.p.n,.int .i64 s.p.ins,.int .i64 s.p.outs,.slice ca s.p.cs.length cc,.int .i64 s.p.an,.slice sa s.p.st.length sc,.int .i64 s.p.rounds,.int .i64 s.tn,.slice ta s.tab.length tc,.slice xa s.ex.length xc] 35)) (.cells #[.slice a2 ch.length c2] 38)
 have R0:=(zh w [.int .i64 s.p.n,.int .i64 s.p.ins,.int .i64 s.p.outs,.slice ca s.p.cs.length cc,.int .i64 s.p.an,.slice sa s.p.st.length sc,.int .i64 s.p.rounds,.int .i64 s.tn,.slice ta s.tab.length tc,.slice xa s.ex.length xc] 35).alloc (.cells #[.slice a2 ch.length c2] 38)
 have R1:=zh (w.alloc (.cells #[.int .i64 s.p.n,.int .i64 s.p.ins,.int .i64 s.p.outs,.slice ca s.p.cs.length cc,.int .i64 s.p.an,.slice sa s.p.st.length sc,.int .i64 s.p.rounds,.int .i64 s.tn,.slice ta s.tab.length tc,.slice xa s.ex.length xc] 35)) [.slice a2 ch.length c2] 38
 rw[World.size_alloc]at R1
 clear hc hs ht hx h2 hf hm hCR hkl hql
 go_enter Tryz.func13,Tryz.ntmps13
 have t0:=R0.zc 0 rfl
 have t1:=R0.zc 1 rfl
 have t2:=R0.zc 2 rfl
 have t3:=R0.zc 3 rfl
 have t4:=R0.zc 4 rfl
 have t5:=R0.zc 5 rfl
 have t6:=R0.zc 6 rfl
 have t7:=R0.zc 7 rfl
 have t8:=R0.zc 8 rfl
 have t9:=R0.zc 9 rfl
 have l0:=R0.lt
 have r0:=R1.zc 0 rfl
 have l1:=R1.lt
 go_wp2_with fail
 refine (KO.out _ ex).mono ?_
 rintro _ w1 ⟨_,rfl,hb,hO⟩
 replace R0:=R0.ext hb
 replace R1:=R1.ext hb
 replace ex:=zb ex hb
 clear hb KO t0 t1 t2 t3 t4 t5 t6 t7 t8 t9 l0 r0 l1
 rcases hO with ⟨h0,g,rfl,hSc,_⟩ | ⟨h0,rfl⟩
 case inr=>
  have RE:=zhd (HE.out w1 h0)
  obtain ⟨e,hee⟩:∃e,e=ruleE s ch:=⟨_,rfl⟩
  rw[←hee]at RE h0 ⊢
  have d0:(e !=0)=true:=by simp[h0]
  clear h0 HO HE hee
  go_wp2
  go_ret2
  exact .mk ex RE.out
 have HO1:=zhd (fun w' u=>HO.out w' u h0)
 have KQ1:=zhd (KQ.out _ _ _ hSc)
 have d0:((0:Int) !=0)=false:=rfl
 have lg:=hSc.lt
 clear h0 HO HE KQ hSc
 go_wp2_with fail
 refine KQ1.out.mono ?_
 rintro _ w2 ⟨u,rfl,hb2,hi2⟩
 have KP1:=zhd (KP.out _ _ _ hi2)
 replace ex:=zb ex hb2
 clear hb2 hi2 KQ1 KP
 go_wp2_with fail
 refine KP1.out.mono ?_
 rintro _ w3 ⟨_,rfl,hb3,u3,rfl,hi3⟩
 have hsz:=ex.size
 replace ex:=zb ex hb3
 have RE:=zhd (HO1.out w3 u3 (hi3.mono fun b hb=>by omega))
 obtain ⟨a3,c3,rfl,_⟩:=hi3.form
 clear hb3 hi3 KP1
 go_wp2
 go_ret2
 exact .mk ex RE.out
theorem Qw {S:Nat→Prop} {w:World} {v vch:Value} {s:SysF} {ch:List Int} (h:SysV S w v s) (hf:PFew s.p) (h2:Ints S w vch ch) (hm:s.tab.length≤120):
  Calls Tryz.prog 15 #[v,.agg #[vch]] w (Post w fun _ r=>r=.tuple #[.int .i64 (sizA s ch),.int .i64 (ruleE s ch)]):=by
 have KC:Hid (∀W,Below w.heap.size w W→Calls Tryz.prog 13 #[v,.agg #[vch]] W (Post W (ClaR W.heap.size s ch))):=zhd fun W hW=>xt (h.ext hW) hf (h2.ext hW) hm
 have KN:Hid (∀S3 W u,Ints S3 W u (quoL s ch)→Calls Tryz.prog 36 #[u] W (Post W fun _ r=>r=.tuple #[.int .i64 (numS (quoL s ch)),.int .i64 0])):=zhd fun S3 W u hu=>by
  have:=za3 hu
  unfold cntR at this
  rw[if_pos (xL.2 (XX (by omega)))]at this;exact this
 have HS:Hid ((ruleE s ch=0→sizA s ch=numS (quoL s ch))∧(ruleE s ch≠0→sizA s ch=0)):=zhd ⟨fun h=>by unfold sizA;rw[if_pos h],fun h=>by unfold sizA;rw[if_neg h]⟩
 obtain ⟨z,hzz⟩:∃z,z=sizA s ch:=⟨_,rfl⟩
 rw[←hzz]at HS ⊢
 obtain ⟨m,hmm⟩:∃m,m=numS (quoL s ch):=⟨_,rfl⟩
 rw[←hmm]at HS KN
 obtain ⟨vc,vs,vt,vx,rfl,hc,hs,ht,hx⟩:=h
 obtain ⟨ca,cc,rfl,_⟩:=hc.form
 obtain ⟨sa,sc,rfl,_⟩:=hs.form
 obtain ⟨ta,tc,rfl,_⟩:=ht.form
 obtain ⟨xa,xc,rfl,_⟩:=hx.form
 obtain ⟨a2,c2,rfl,_⟩:=h2.form
 have ex:=zg (ze w (.cells #[.int .i64 s.p.n,.int .i64 s.p.ins,.int .i64 s.p.outs,.slice ca s.p.cs.length cc,.int .i64 s.p.an,.slice sa s.p.st.length sc,.int .i64 s.p.rounds,.int .i64 s.tn,.slice ta s.tab.length tc,.slice xa s.ex.length xc] 35)) (.cells #[.slice a2 ch.length c2] 38)
 have R0:=(zh w [.int .i64 s.p.n,.int .i64 s.p.ins,.int .i64 s.p.outs,.slice ca s.p.cs.length cc,.int .i64 s.p.an,.slice sa s.p.st.length sc,.int .i64 s.p.rounds,.int .i64 s.tn,.slice ta s.tab.length tc,.slice xa s.ex.length xc] 35).alloc (.cells #[.slice a2 ch.length c2] 38)
 have R1:=zh (w.alloc (.cells #[.int .i64 s.p.n,.int .i64 s.p.ins,.int .i64 s.p.outs,.slice ca s.p.cs.length cc,.int .i64 s.p.an,.slice sa s.p.st.length sc,.int .i64 s.p.rounds,.int .i64 s.tn,.slice ta s.tab.length tc,.slice xa s.ex.length xc] 35)) [.slice a2 ch.length c2] 38
 rw[World.size_alloc]at R1
 clear hc hs ht hx h2 hf hm hzz hmm
 go_enter Tryz.func15,Tryz.ntmps15
 have t0:=R0.zc 0 rfl
 have t1:=R0.zc 1 rfl
 have t2:=R0.zc 2 rfl
 have t3:=R0.zc 3 rfl
 have t4:=R0.zc 4 rfl
 have t5:=R0.zc 5 rfl
 have t6:=R0.zc 6 rfl
 have t7:=R0.zc 7 rfl
 have t8:=R0.zc 8 rfl
 have t9:=R0.zc 9 rfl
 have l0:=R0.lt
 have r0:=R1.zc 0 rfl
 have l1:=R1.lt
 go_wp2_with fail
 refine (KC.out _ ex).mono ?_
 rintro _ w1 ⟨_,rfl,hb,hO⟩
 replace R0:=R0.ext hb
 replace R1:=R1.ext hb
 replace ex:=zb ex hb
 clear hb KC t0 t1 t2 t3 t4 t5 t6 t7 t8 t9 l0 r0 l1
 rcases hO with ⟨h0,u,rfl,hu⟩ | ⟨h0,rfl⟩
 case inr=>
  have RE:=zhd (HS.out.2 h0)
  obtain ⟨e,hee⟩:∃e,e=ruleE s ch:=⟨_,rfl⟩
  rw[←hee]at h0 ⊢
  have HEE:=zhd hee
  have d0:(e !=0)=true:=by simp[h0]
  clear h0 HS hee
  go_wp2
  go_ret2
  exact .mk ex (tup2 RE.out.symm HEE.out)
 have RE:=zhd (HS.out.1 h0)
 have HE0:=zhd h0
 have KN1:=zhd (KN.out _ _ _ hu)
 have d0:((0:Int) !=0)=false:=rfl
 clear h0 HS KN hu
 go_wp2_with fail
 refine KN1.out.mono ?_
 rintro _ w2 ⟨_,rfl,hb2,rfl⟩
 replace ex:=zb ex hb2
 clear hb2 KN1
 go_wp2
 go_ret2
 exact .mk ex (tup2 RE.out.symm HE0.out.symm)
theorem Yb {S S3:Nat→Prop} {w:World} {v vch vcl:Value} {s:SysF} {ch cl:List Int} (h:SysV S w v s) (hf:PFew s.p) (h2:Ints S w vch ch) (h3:Ints S3 w vcl cl) (hm:s.tab.length≤120):
  Calls Tryz.prog 18 #[v,.agg #[vch],vcl] w (Post w fun _ r=>r=.int .i64 (verQ s ch cl)):=by
 have KO:Hid (∀W,Below w.heap.size w W→Calls Tryz.prog 32 #[v,.agg #[vch]] W (Post W (OfQ W.heap.size (fun b=>S b∧b<W.heap.size) s ch))):=zhd fun W hW=>YR (h.ext hW) hf (h2.ext hW) hm
 have KC:Hid (∀W,Below w.heap.size w W→Calls Tryz.prog 38 #[vcl] W (Post W fun _ r=>r=.int .i64 (checkS cl))):=zhd fun W hW=>YN (h3.ext hW)
 have KS:Hid (∀(A:Nat→Prop) W g u x,ScnV A W g s ch→cl.length=s.tab.length→u<s.tab.length→x<s.tab.length→Below w.heap.size w W→Calls Tryz.prog 39 #[.pointer (some ⟨g,0,none⟩),vcl,.int .i64 u,.int .i64 x] W (Post W fun _ r=>r=.bool (samB s.tab ch (nth cl) u x))):=zhd fun A W g u x hs hl hu hx hW=>Yt hs (h3.ext hW) hl hu hx
 have HQ1:Hid (ruleE s ch≠0→verQ s ch cl=ruleE s ch):=zhd fun h0=>by unfold verQ;rw[if_neg h0]
 have HQ2:Hid (ruleE s ch=0→verQ s ch cl=if checkS cl=0 then (if cl.length=s.tab.length then (if fitB s.tab ch cl then 0 else 18) else 15) else checkS cl):=zhd fun h0=>by unfold verQ;rw[if_pos h0];rfl
 have HFY:Hid (ruleE s ch=0→(∀v,v<s.tab.length→samB s.tab ch (nth cl) v (fstC cl v)=true)→fitB s.tab ch cl=true):=zhd fun h0 hh=>zb0.2 ((zbC (zY h h0).1.tab (zY h h0).1.nodup).2 hh)
 have HFN:Hid (ruleE s ch=0→∀v,v<s.tab.length→samB s.tab ch (nth cl) v (fstC cl v)=false→fitB s.tab ch cl=false):=zhd fun h0 v hv hh=>by
  cases e:fitB s.tab ch cl with
  | false=>rfl
  | true=>
   have:=(zbC (zY h h0).1.tab (zY h h0).1.nodup).1 (zb0.1 e) v hv
   rw[hh]at this;cases this
 have HRF:Hid (ruleE s ch=0→∀v,samB s.tab ch (nth cl) v v=true):=zhd fun h0 v=>Z1 (zY h h0).1.nodup _ _ _
 obtain ⟨r,hr⟩:∃r,r=verQ s ch cl:=⟨_,rfl⟩
 rw[←hr]at HQ1 HQ2 ⊢
 obtain ⟨vc,vs,vt,vx,rfl,hc,hs,ht,hx⟩:=h
 obtain ⟨ca,cc,rfl,_⟩:=hc.form
 obtain ⟨sa,sc,rfl,_⟩:=hs.form
 obtain ⟨ta,tc,rfl,_⟩:=ht.form
 obtain ⟨xa,xc,rfl,_⟩:=hx.form
 obtain ⟨a2,c2,rfl,_⟩:=h2.form
 obtain ⟨a3,c3,rfl,_⟩:=h3.form
 have HC:Hid (∀k,k<cl.length→w.cell? (adr a3 k)=some (.int .i64 (nth cl k))):=zhd fun k hk=>h3.cellN hk
 have HQ:Hid (∀k,k<cl.length→∀W:World,(Instr.indexAt 36 (.slice a3 cl.length c3) (.int .i64 k)).run Tryz.prog W=.ok (.pointer (some (adr a3 k))) W):=zhd fun k hk W=>h3.idx hk W
 have HWF:=zhd h3.wf
 have ex:=zg (ze w (.cells #[.int .i64 s.p.n,.int .i64 s.p.ins,.int .i64 s.p.outs,.slice ca s.p.cs.length cc,.int .i64 s.p.an,.slice sa s.p.st.length sc,.int .i64 s.p.rounds,.int .i64 s.tn,.slice ta s.tab.length tc,.slice xa s.ex.length xc] 35)) (.cells #[.slice a2 ch.length c2] 38)
 have R0:=(zh w [.int .i64 s.p.n,.int .i64 s.p.ins,.int .i64 s.p.outs,.slice ca s.p.cs.length cc,.int .i64 s.p.an,.slice sa s.p.st.length sc,.int .i64 s.p.rounds,.int .i64 s.tn,.slice ta s.tab.length tc,.slice xa s.ex.length xc] 35).alloc (.cells #[.slice a2 ch.length c2] 38)
 have R1:=zh (w.alloc (.cells #[.int .i64 s.p.n,.int .i64 s.p.ins,.int .i64 s.p.outs,.slice ca s.p.cs.length cc,.int .i64 s.p.an,.slice sa s.p.st.length sc,.int .i64 s.p.rounds,.int .i64 s.tn,.slice ta s.tab.length tc,.slice xa s.ex.length xc] 35)) [.slice a2 ch.length c2] 38
 rw[World.size_alloc]at R1
 clear hc hs ht hx h2 h3 hf hr
 go_enter Tryz.func18,Tryz.ntmps18
 have t0:=R0.zc 0 rfl
 have t1:=R0.zc 1 rfl
 have t2:=R0.zc 2 rfl
 have t3:=R0.zc 3 rfl
 have t4:=R0.zc 4 rfl
 have t5:=R0.zc 5 rfl
 have t6:=R0.zc 6 rfl
 have t7:=R0.zc 7 rfl
 have t8:=R0.zc 8 rfl
 have t9:=R0.zc 9 rfl
 have l0:=R0.lt
 have r0:=R1.zc 0 rfl
 have l1:=R1.lt
 go_wp2_with fail
 refine (KO.out _ ex).mono ?_
 rintro _ w1 ⟨_,rfl,hb,hO⟩
 replace R0:=R0.ext hb
 replace R1:=R1.ext hb
 replace ex:=zb ex hb
 clear hb KO t0 t1 t2 t3 t4 t5 t6 t7 t8 t9 l0 r0 l1
 rcases hO with ⟨h0,g,rfl,hSc,_⟩ | ⟨h0,rfl⟩
 case inr=>
  have RE:=zhd (HQ1.out h0)
  obtain ⟨e,hee⟩:∃e,e=ruleE s ch:=⟨_,rfl⟩
  rw[←hee]at RE h0 ⊢
  have d0:(e !=0)=true:=by simp[h0]
  clear h0 HQ1 HQ2 hee HFY HFN HRF
  go_wp2
  go_ret
  exact .mk ex (zk RE.out.symm)
 have HV:=zhd (HQ2.out h0)
 have HY:=zhd (HFY.out h0)
 have HN:=zhd (HFN.out h0)
 have HR:=zhd (HRF.out h0)
 have HSc:=zhd hSc
 have d0:((0:Int) !=0)=false:=rfl
 clear h0 HQ1 HQ2 HFY HFN HRF hSc
 obtain ⟨e,hee⟩:∃e,e=checkS cl:=⟨_,rfl⟩
 rw[←hee]at KC HV
 clear hee
 go_wp2_with fail
 refine (KC.out _ ex).mono ?_
 rintro _ w2 ⟨_,rfl,hb,rfl⟩
 replace R0:=R0.ext hb
 replace R1:=R1.ext hb
 replace HSc:=zhd (HSc.out.ext hb)
 replace ex:=zb ex hb
 clear hb KC d0
 by_cases h1:e=0
 case neg=>
  have RE:=zhd (HV.out.trans (if_neg h1))
  have d1:(e !=0)=true:=by simp[h1]
  clear h1 HV
  go_wp2
  go_ret
  exact .mk ex (zk RE.out.symm)
 have HV1:=zhd (HV.out.trans (if_pos h1))
 have d1:(e !=0)=false:=by simp[h1]
 clear h1 HV
 have t8:=R0.zc 8 rfl
 have l0:=R0.lt
 by_cases hl:cl.length=s.tab.length
 case neg=>
  have RE:=zhd (HV1.out.trans (if_neg hl))
  have d2:((cl.length:Int) !=(s.tab.length:Int))=true:=by rw[bne_iff_ne];omega
  clear hl HV1
  go_wp2
  go_ret
  exact .mk ex (zk RE.out.symm)
 have HV2:=zhd (HV1.out.trans (if_pos hl))
 have d2:((cl.length:Int) !=(s.tab.length:Int))=false:=by rw[hl];simp
 have HL:=zhd hl
 have hmm:=@run_makeMap Tryz.prog
 have hc120:cl.length≤120:=by omega
 have hxm:=zb ex (ze w2 (.map #[] 0))
 have HM0:Hid (MapV key52 (w2.alloc (.map #[] 0)) w2.heap.size (fstM cl 0) 0):=zhd (by rw[zep];exact MapV.made key52 w2)
 have HScm:=zhd (HSc.out.ext (ze w2 (.map #[] 0)))
 have hsz:=ex.size
 clear hl HV1
 go_wp2
 obtain ⟨MB,hMB⟩:∃MB,MB=w2.heap.size:=⟨_,rfl⟩
 obtain ⟨w3,hw3⟩:∃w3,w3=w2.alloc (.map #[] 0):=⟨_,rfl⟩
 rw[←hMB]at HM0 hsz ⊢
 rw[←hw3]at HM0 HScm hxm ⊢
 have hb30:=Below.refl MB w3
 have HEX3:=zhd hxm
 have HMBs:Hid (MB<w3.heap.size):=zhd HM0.out.lt
 have HScB:Hid (∀W,Below MB w3 W→ScnV (fun b=>b<MB) W g s ch):=zhd fun W hW=>by
  have h1:ScnV (fun b=>b<MB) w3 g s ch:=by
   rw[hw3]
   exact ((HSc.out.block).mono (A':=fun b=>b<MB) fun b hb=>by omega).ext (ze w2 _)
  exact h1.agree (.of_below hW fun b hb _=>hb)
 have HEW:Hid (∀W,Below MB w3 W→Below w.heap.size w W):=zhd fun W hW=>hxm.trans (hW.mono hsz)
 clear hmm hMB hw3 R0 R1 t8 l0 ex d1 d2 hxm HSc HScm
 go_loopw [11,12,13,14,39] (fun _ _ _ _ iv wr=>∃k nn:Nat,k≤cl.length∧iv=.int .i64 k∧nn≤k∧Hid (MapV key52 wr MB (fstM cl k) nn)∧Hid (∀v,v<k→samB s.tab ch (nth cl) v (fstC cl v)=true)∧Below MB w3 wr) (fun _ _ _ _ iv _=>cl.length - (intOf iv).toNat)
 case atStart=>exact ⟨0,0,Nat.zero_le _,rfl,Nat.le_refl _,HM0,zhd fun v hv=>by omega,hb30⟩
 case round=>
  clear hb30 HM0
  obtain ⟨k,nn,hk,rfl,hnn,HM,HZ,hb⟩:=hrel
  by_cases hlt:k<cl.length
  case neg=>
   obtain rfl:k=cl.length:=by omega
   have RE:Hid (r=0):=zhd (HV2.out.trans (if_pos (HY.out fun v hv=>HZ.out v (by rw[HL.out];exact hv))))
   have HE3:=zhd (HEW.out _ hb)
   clear hb HM
   go_wp2
   go_ret
   exact .mk HE3.out (zk RE.out.symm)
  have qk:=HQ.out k hlt
  have ck:=zj (HC.out k hlt) (HEW.out _ hb)
  have bk:=World.block_lt_of_cell? _ _ ck
  have hwf:WF (nth cl k):=HWF.out _ (ZA hlt)
  have HWk:=zhd hwf
  have hkt:k<s.tab.length:=by have:=HL.out;omega
  have HZN:Hid (samB s.tab ch (nth cl) k (fstC cl k)=true→∀v,v<k+1→samB s.tab ch (nth cl) v (fstC cl v)=true):=zhd fun h v hv=>by
   by_cases e:v=k
   ·subst e;exact h
   ·exact HZ.out v (by omega)
  have HNk:=zhd (HN.out k hkt)
  have hst:=zc9 cl k
  obtain ⟨c,hcc⟩:∃c,c=nth cl k:=⟨_,rfl⟩
  rw[←hcc]at ck hst HWk
  clear hwf hcc
  rcases hst with ⟨hm1,hm2,hm3⟩ | ⟨t,ht,hm1,hm2,hm3⟩
  ·have HMI:=zhd hm1
   have HUPN:=zhd hm3
   have HZ2:=zhd (HZN.out (by rw[hm2];exact HR.out k))
   have hMs:=HM.out.lt
   clear hm1 hm2 hm3
   go_wp2_with (first
    | (at_lookup;refine YD rfl _ _ 78 rfl 3 Tryz.underlying78 (.int .i64 0) (yY _) rfl HM.out c rfl HWk.out HMI.out ?_)
    | (at_mapUpdate;refine QA rfl _ _ _ 78 rfl 3 Tryz.underlying78 rfl HM.out (by unfold maxLen;omega) c rfl HWk.out (.int .i64 k) rfl ?_;intro w5 hM5 hg5))
   have HM5:Hid (MapV key52 w5 MB (fstM cl (k+1)) (nn+1)):=zhd (by
    rw[HUPN.out,HMI.out]at hM5
    exact hM5)
   have hb5:Below MB w3 w5:=hb.grown hg5 (by omega) (fun q hq=>by injection hq with hq;omega)
   clear hM5 hg5 HM hb ck bk qk
   go_wp2
   go_roundw
   case rel=>exact ⟨k+1,nn+1,by omega,by go_num,by omega,HM5,HZ2,hb5⟩
   case measure=>simp[intOf];omega
  ·have HMI:=zhd hm1
   rw[←hm3]at HM
   have HMO:=zhd (show fstM cl (k+1) c=some (.int .i64 t) by rw[hm3];exact hm1)
   have htt:t<s.tab.length:=by omega
   have KS1:=zhd (KS.out _ wr g k t (HScB.out _ hb) HL.out hkt htt (HEW.out _ hb))
   rw[hm2]at HZN HNk
   obtain ⟨b,hbb⟩:∃b,b=samB s.tab ch (nth cl) k t:=⟨_,rfl⟩
   rw[←hbb]at KS1 HZN HNk
   have hMs:=HM.out.lt
   clear hm1 hm2 hm3 hbb
   go_wp2_with (at_lookup;refine Qb rfl _ _ 78 rfl 3 Tryz.underlying78 (.int .i64 0) (yY _) rfl HM.out c rfl HWk.out (.int .i64 t) HMO.out ?_)
   refine KS1.out.mono ?_
   rintro _ w4 ⟨_,rfl,hb4,rfl⟩
   have HM4:=zhd (HM.out.ext hb4)
   have hb5:Below MB w3 w4:=hb.trans (hb4.mono (by omega))
   clear hb4 KS1 HM hb ck bk qk
   cases b with
   | true=>
    have HZ2:=zhd (HZN.out rfl)
    go_wp2
    go_roundw
    case rel=>exact ⟨k+1,nn,by omega,by go_num,by omega,HM4,HZ2,hb5⟩
    case measure=>simp[intOf];omega
   | false=>
    have RE:Hid (r=18):=zhd (HV2.out.trans (by rw[HNk.out rfl];rfl))
    have HE3:=zhd (HEW.out _ hb5)
    clear hb5 HM4
    go_wp2
    go_ret
    exact .mk HE3.out (zk RE.out.symm)
def PairR (B:Nat) (S:Nat→Prop) (s:SysF) (ch:List Int) (u x:Int) (w':World) (r:Value):Prop:=(pairE s ch u x=0∧∃g,r=.tuple #[.pointer (some ⟨g,0,none⟩),.int .i64 0]∧ScnV (fun b=>(S b∧b<B)∨B≤b) w' g s ch)∨(pairE s ch u x≠0∧r=.tuple #[.pointer none,.int .i64 (pairE s ch u x)])
theorem zer {T:List (List Int)} {u x:Nat}:likB T u x=true↔prcT T u=prcT T x∧rndT T u=rndT T x:=by
 unfold likB;rw[Bool.and_eq_true,decide_eq_true_iff,decide_eq_true_iff]
theorem Zv {s:SysF} {ch:List Int} {u x:Int} (h:pairE s ch u x=0):ruleE s ch=0∧0≤u∧u<s.tab.length∧0≤x∧x<s.tab.length∧prcT s.tab u.toNat=prcT s.tab x.toNat∧rndT s.tab u.toNat=rndT s.tab x.toNat:=by
 unfold pairE at h
 by_cases h0:ruleE s ch=0
 ·rw[if_pos h0]at h
  by_cases h1:u<0∨(s.tab.length:Int)≤u∨x<0∨(s.tab.length:Int)≤x
  ·rw[if_pos h1]at h;cases h
  ·rw[if_neg h1]at h
   by_cases h2:prcT s.tab u.toNat=prcT s.tab x.toNat∧rndT s.tab u.toNat=rndT s.tab x.toNat
   ·exact ⟨h0,by omega,by omega,by omega,by omega,h2.1,h2.2⟩
   ·rw[if_neg h2]at h;cases h
 ·rw[if_neg h0]at h;exact absurd h h0
theorem YK {S:Nat→Prop} {w:World} {v vch:Value} {s:SysF} {ch:List Int} (u' x':Int) (h:SysV S w v s) (hf:PFew s.p) (h2:Ints S w vch ch) (hm:s.tab.length≤120):
  Calls Tryz.prog 41 #[v,.agg #[vch],.int .i64 u',.int .i64 x'] w (Post w (PairR w.heap.size S s ch u' x')):=by
 have KO:Hid (∀W,Below w.heap.size w W→Calls Tryz.prog 32 #[v,.agg #[vch]] W (Post W (OfQ W.heap.size (fun b=>S b∧b<W.heap.size) s ch))):=zhd fun W hW=>YR (h.ext hW) hf (h2.ext hW) hm
 have HQ:Hid (pairE s ch u' x'=if ruleE s ch=0 then (if u'<0∨(s.tab.length:Int)≤u'∨x'<0∨(s.tab.length:Int)≤x' then 6 else if prcT s.tab u'.toNat=prcT s.tab x'.toNat∧rndT s.tab u'.toNat=rndT s.tab x'.toNat then 0 else 22) else ruleE s ch):=zhd rfl
 have HO:Hid (∀w' g,pairE s ch u' x'=0→ScnV (fun b=>(S b∧b<w.heap.size)∨w.heap.size≤b) w' g s ch→PairR w.heap.size S s ch u' x' w' (.tuple #[.pointer (some ⟨g,0,none⟩),.int .i64 0])):=zhd fun w' g h0 hs=>.inl ⟨h0,g,rfl,hs⟩
 have HE:Hid (∀w' e,pairE s ch u' x'=e→e≠0→PairR w.heap.size S s ch u' x' w' (.tuple #[.pointer none,.int .i64 e])):=zhd fun w' e h1 h0=>by subst h1;exact .inr ⟨h0,rfl⟩
 obtain ⟨PR,hPR⟩:∃PR,PR=PairR w.heap.size S s ch u' x':=⟨_,rfl⟩
 rw[←hPR]at HO HE ⊢
 obtain ⟨r,hr⟩:∃r,r=pairE s ch u' x':=⟨_,rfl⟩
 rw[←hr]at HQ HO HE
 obtain ⟨vc,vs,vt,vx,rfl,hc,hs,ht,hx⟩:=h
 obtain ⟨ca,cc,rfl,_⟩:=hc.form
 obtain ⟨sa,sc,rfl,_⟩:=hs.form
 obtain ⟨ta,tc,rfl,_⟩:=ht.form
 obtain ⟨xa,xc,rfl,_⟩:=hx.form
 obtain ⟨a2,c2,rfl,_⟩:=h2.form
 have ex:=zg (ze w (.cells #[.int .i64 s.p.n,.int .i64 s.p.ins,.int .i64 s.p.outs,.slice ca s.p.cs.length cc,.int .i64 s.p.an,.slice sa s.p.st.length sc,.int .i64 s.p.rounds,.int .i64 s.tn,.slice ta s.tab.length tc,.slice xa s.ex.length xc] 35)) (.cells #[.slice a2 ch.length c2] 38)
 have R0:=(zh w [.int .i64 s.p.n,.int .i64 s.p.ins,.int .i64 s.p.outs,.slice ca s.p.cs.length cc,.int .i64 s.p.an,.slice sa s.p.st.length sc,.int .i64 s.p.rounds,.int .i64 s.tn,.slice ta s.tab.length tc,.slice xa s.ex.length xc] 35).alloc (.cells #[.slice a2 ch.length c2] 38)
 have R1:=zh (w.alloc (.cells #[.int .i64 s.p.n,.int .i64 s.p.ins,.int .i64 s.p.outs,.slice ca s.p.cs.length cc,.int .i64 s.p.an,.slice sa s.p.st.length sc,.int .i64 s.p.rounds,.int .i64 s.tn,.slice ta s.tab.length tc,.slice xa s.ex.length xc] 35)) [.slice a2 ch.length c2] 38
 rw[World.size_alloc]at R1
 clear hc hs ht hx h2 hr hPR hf
 go_enter Tryz.func41,Tryz.ntmps41
 have t0:=R0.zc 0 rfl
 have t1:=R0.zc 1 rfl
 have t2:=R0.zc 2 rfl
 have t3:=R0.zc 3 rfl
 have t4:=R0.zc 4 rfl
 have t5:=R0.zc 5 rfl
 have t6:=R0.zc 6 rfl
 have t7:=R0.zc 7 rfl
 have t8:=R0.zc 8 rfl
 have t9:=R0.zc 9 rfl
 have l0:=R0.lt
 have r0:=R1.zc 0 rfl
 have l1:=R1.lt
 go_wp2_with fail
 refine (KO.out _ ex).mono ?_
 rintro _ w1 ⟨_,rfl,hb,hO⟩
 replace R0:=R0.ext hb
 replace R1:=R1.ext hb
 replace ex:=zb ex hb
 clear hb KO t0 t1 t2 t3 t4 t5 t6 t7 t8 t9 l0 r0 l1
 rcases hO with ⟨h0,g,rfl,hSc,_⟩ | ⟨h0,rfl⟩
 case inr=>
  have RE:=zhd (HE.out w1 _ (HQ.out.trans (if_neg h0)) h0)
  obtain ⟨e,hee⟩:∃e,e=ruleE s ch:=⟨_,rfl⟩
  rw[←hee]at RE h0 ⊢
  have d0:(e !=0)=true:=by simp[h0]
  clear h0 HO HE hee HQ
  go_wp2
  go_ret2
  exact .mk ex RE.out
 have HQ1:=zhd (HQ.out.trans (if_pos h0))
 have hszw:=ex.size
 have HSc:=zhd hSc
 have d0:((0:Int) !=0)=false:=rfl
 clear h0 HQ hSc
 have t8:=R0.zc 8 rfl
 have l0:=R0.lt
 by_cases h1:u'<0
 ·have dh1:decide (u'<0)=true:=decide_eq_true h1
  have RE:=zhd (HE.out w1 6 (HQ1.out.trans (if_pos (.inl h1))) (by decide))
  clear h1 HQ1 HO HE HSc
  go_wp2
  go_ret2
  exact .mk ex RE.out
 have dh1:decide (u'<0)=false:=decide_eq_false (by omega)
 by_cases h2:(s.tab.length:Int)≤u'
 ·have dh2:decide ((s.tab.length:Int)≤u')=true:=decide_eq_true h2
  have RE:=zhd (HE.out w1 6 (HQ1.out.trans (if_pos (.inr (.inl h2)))) (by decide))
  clear h2 HQ1 HO HE HSc
  go_wp2
  go_ret2
  exact .mk ex RE.out
 have dh2:decide ((s.tab.length:Int)≤u')=false:=decide_eq_false (by omega)
 by_cases h3:x'<0
 ·have dh3:decide (x'<0)=true:=decide_eq_true h3
  have RE:=zhd (HE.out w1 6 (HQ1.out.trans (if_pos (.inr (.inr (.inl h3))))) (by decide))
  clear h3 HQ1 HO HE HSc
  go_wp2
  go_ret2
  exact .mk ex RE.out
 have dh3:decide (x'<0)=false:=decide_eq_false (by omega)
 by_cases h4:(s.tab.length:Int)≤x'
 ·have dh4:decide ((s.tab.length:Int)≤x')=true:=decide_eq_true h4
  have RE:=zhd (HE.out w1 6 (HQ1.out.trans (if_pos (.inr (.inr (.inr h4))))) (by decide))
  clear h4 HQ1 HO HE HSc
  go_wp2
  go_ret2
  exact .mk ex RE.out
 have dh4:decide ((s.tab.length:Int)≤x')=false:=decide_eq_false (by omega)
 have HQ2:=zhd (HQ1.out.trans (if_neg (fun h=>by omega)))
 obtain ⟨u,rfl⟩:∃u:Nat,u'=u:=⟨u'.toNat,by omega⟩
 obtain ⟨x,rfl⟩:∃x:Nat,x'=x:=⟨x'.toNat,by omega⟩
 rw[Int.toNat_natCast,Int.toNat_natCast]at HQ2
 have hu:u<s.tab.length:=by omega
 have hx:x<s.tab.length:=by omega
 have n2:decide (s.tab.length≤u)=false:=decide_eq_false (by omega)
 have n4:decide (s.tab.length≤x)=false:=decide_eq_false (by omega)
 have KA:=zhd (ZO HSc.out hu hx)
 have HB1:Hid (likB s.tab u x=true→r=0):=zhd fun hb=>by rw[HQ2.out,if_pos (zer.1 hb)]
 have HB0:Hid (likB s.tab u x=false→r=22):=zhd fun hb=>by rw[HQ2.out,if_neg (fun h=>by rw[zer.2 h]at hb;cases hb)]
 obtain ⟨b,hbb⟩:∃b,b=likB s.tab u x:=⟨_,rfl⟩
 rw[←hbb]at KA HB1 HB0
 clear hu hx hbb HQ1 HQ2 h1 h2 h3 h4
 go_wp2_with fail
 refine KA.out.mono ?_
 rintro _ w2 ⟨_,rfl,hb2,rfl⟩
 have HS2:=zhd (HSc.out.ext hb2)
 replace ex:=zb ex hb2
 clear hb2 KA HSc t8 l0 R0 R1
 cases b with
 | true=>
  have RE:=zhd (HO.out w2 g (HB1.out rfl) (HS2.out.mono fun b hb=>by
   rcases hb with ⟨h1,h2⟩ | h1
   ·by_cases h:b<w.heap.size
    ·exact .inl ⟨h1,h⟩
    ·exact .inr (by omega)
   ·exact .inr (by simp only[World.size_alloc]at h1;omega)))
  clear HO HE HB1 HB0 HS2
  go_wp2
  go_ret2
  exact .mk ex RE.out
 | false=>
  have RE:=zhd (HE.out w2 22 (HB0.out rfl) (by decide))
  clear HO HE HB1 HB0 HS2
  go_wp2
  go_ret2
  exact .mk ex RE.out
end Go.Proofs.YtfjlhjkjjbiliaaGreat
