/- Part of the proof that the laws answer true for every input. -/
import Derived.Test.YtfjlhjkjjbiliaaGreatPXa37
import Derived.Test.YtfjlhjkjjbiliaaGreatPXa34
import Derived.Test.YtfjlhjkjjbiliaaGreatPXa36
import Derived.Sort.QuietIn
set_option linter.unusedSimpArgs false
set_option linter.unnecessarySimpa false
set_option linter.unusedVariables false
set_option maxRecDepth 100000
set_option maxHeartbeats 40000000
namespace Go.Proofs.YtfjlhjkjjbiliaaGreat
open Go.RowKit Go.Shelf
attribute [local go_sem ↓] Go.wp_at_zero Go.wp_at_succ
attribute [local go_sem] Oper.semAt_some
theorem zaQ {w w':World} (h:Below w.heap.size w w'):w.grownBy w' none:=⟨h.os,h.tape,h.output,h.size,fun k hk _=>h.block k hk⟩
theorem zfA {β:Type} {B:Nat} {J:β→World→Prop} (hJ:AbidesFrom B J) {s:β} {W W':World} (h:J s W) (hq:Below W.heap.size W W'):J s W':=hJ s W W' none h (zaQ hq) (fun r e=>by cases e)
def hrN (T:List (List Int)) (v:Nat):List Nat:=(List.range T.length).filter fun u=>hrsB T u v
theorem zdv (T:List (List Int)) (v:Nat):hrdL T T.length v=(hrN T v).map fun u:Nat=>(u:Int):=rfl
theorem zfT (T:List (List Int)) (v:Nat):(hrN T v).length≤T.length:=by
 unfold hrN;exact Nat.le_trans (List.length_filter_le _ _) (by simp)
theorem Yv {T:List (List Int)} {v u:Nat}:u∈hrN T v↔u<T.length∧hrsB T u v=true:=by unfold hrN;rw[List.mem_filter,List.mem_range]
theorem zcz {S:Nat→Prop} {w:World} {a:Option Addr} {n c:Nat} {l:List (List Int)} (h:Lists S w (.slice a n c) l) {k:Nat} (hk:k<l.length) (W:World):(Instr.indexAt 109 (.slice a n c) (.int .i64 k)).run Tryz.prog W=.ok (.pointer (some (adr a k))) W:=by
 obtain ⟨_,_,hee,ad,_⟩:=h.form
 cases hee
 obtain ⟨i0,hi,_,hz1,_⟩:=info_parts zK
 exact zz Tryz.underlying109 hi hz1 ad k hk W
abbrev Hrd (T:List (List Int)) (v:Nat):Type:={u:Nat // u<T.length∧hrsB T u v=true}
theorem ZY (w:World) (g:Nat) (v x:Int):Calls Tryz.prog 65 #[.pointer (some ⟨g,0,none⟩),.int .i64 v,.int .i64 x] w fun q w'=>q=.returned (.func (.func 86) #[] #[.pointer (some ⟨w.heap.size,0,none⟩),.pointer (some ⟨w.heap.size+1,0,none⟩),.pointer (some ⟨w.heap.size+1+1,0,none⟩)])∧w'=((w.alloc (.cells #[.pointer (some ⟨g,0,none⟩)] 83)).alloc (.cells #[.int .i64 v] 3)).alloc (.cells #[.int .i64 x] 3):=by
 go_enter Tryz.func65,Tryz.ntmps65
 go_wp2
 go_ret
 exact ⟨rfl,rfl⟩
theorem ZP {T:Nat→Prop} {w:World} {n B1 B2 B3 g v x:Nat} {s:SysF} {ch:List Int} (hn:1≤n) (R1:Row w B1 83 [.pointer (some ⟨g,0,none⟩)]) (R2:Row w B2 3 [.int .i64 v]) (R3:Row w B3 3 [.int .i64 x]) (V:ScnV T w g s ch)
  (hv:v<s.tab.length) (hx:x<s.tab.length) (hT1:T B1) (hT2:T B2) (hT3:T B3) (hTw:∀b,T b→b<w.heap.size):
  SeqStopsK Fence.wide n Tryz.prog 86 #[.pointer (some ⟨B1,0,none⟩),.pointer (some ⟨B2,0,none⟩),.pointer (some ⟨B3,0,none⟩)] (fun u:Hrd s.tab v=>#[.int .i64 u.1,.int .i64 (repT s.tab u.1 v x)]) (Agree T) (fun l=>l.map (·.1)=hrN s.tab v) (fun pre=>pre.map (·.1)<+:hrN s.tab v) s.tab.length w:=by
 intro l J Jx W hW hJ hJx hY h0
 have HY:=zhd hY
 have H0:=zhd h0
 have HJ:=zhd hJ
 have R1:=R1.ext hW
 have R2:=R2.ext hW
 have R3:=R3.ext hW
 have V:=V.ext hW
 have HR1:Hid (∀W',Agree T W W'→Row W' B1 83 [.pointer (some ⟨g,0,none⟩)]):=zhd fun W' h=>R1.agree h hT1
 have HR2:Hid (∀W',Agree T W W'→Row W' B2 3 [.int .i64 v]):=zhd fun W' h=>R2.agree h hT2
 have HR3:Hid (∀W',Agree T W W'→Row W' B3 3 [.int .i64 x]):=zhd fun W' h=>R3.agree h hT3
 have HV:Hid (∀W',Agree T W W'→ScnV T W' g s ch):=zhd fun W' h=>V.agree h
 have hfew:=V.dat.few
 have KR:Hid (∀u,u<s.tab.length→∀W',Agree T W W'→Calls Tryz.prog 45 #[.pointer (some ⟨g,0,none⟩),.int .i64 u,.int .i64 v,.int .i64 x] W' (Post W' fun _ r=>r=.int .i64 (repT s.tab u v x))):=zhd fun u hu W' h=>Zy (HV.out W' h) hu hv (WF.small (by omega))
 have p1:=R1.zc 0 rfl
 have p2:=R2.zc 0 rfl
 have l1:=R1.lt
 have l2:=R2.lt
 have lg:=V.lt
 obtain ⟨ca,cc,sa,sc,ta,tc,xa,xc,a2,c2,la,lc,mb,R,_,_,_,_,hL⟩:=V.mem
 have p12:=R.zc 12 rfl
 have lq:=zcz hL (k:=v) (by rw[Z8];exact hv)
 obtain ⟨vv,cv,iv⟩:=(show Lists T W (.slice la (hrdLL s.tab).length lc) (hrdLL s.tab) by rw[Z8];exact hL).at (.refl _ _) (k:=v) (by rw[Z8];exact hv)
 rw[zeY hv]at iv
 obtain ⟨va,vc,rfl,_⟩:=iv.form
 have bv:=World.block_lt_of_cell? _ _ cv
 have hln:(hrdL s.tab s.tab.length v).length=(hrN s.tab v).length:=by rw[zdv,List.length_map]
 have HQ:Hid (∀k,k<(hrN s.tab v).length→∀W:World,(Instr.indexAt 36 (.slice va (hrN s.tab v).length vc) (.int .i64 k)).run Tryz.prog W=.ok (.pointer (some (adr va k))) W):=zhd fun k hk W=>by
  have:=iv.idx (k:=k) (by rw[hln];exact hk) W
  rw[hln]at this;exact this
 have HC:Hid (∀W',Agree T W W'→∀k (hk:k<(hrN s.tab v).length),W'.cell? (adr va k)=some (.int .i64 ((hrN s.tab v)[k]:Nat))):=zhd fun W' h k hk=>by
  have:=(iv.agree h).cellN (k:=k) (by rw[hln];exact hk)
  rw[this,zdv,yh (by rw[List.length_map];exact hk),List.getElem_map]
 rw[hln]at cv
 have HNL:=zhd (zfT s.tab v)
 have HMEM:Hid (∀k (hk:k<(hrN s.tab v).length),(hrN s.tab v)[k]<s.tab.length∧hrsB s.tab (hrN s.tab v)[k] v=true):=zhd fun k hk=>Yv.1 (List.getElem_mem hk)
 have HTK:Hid (∀k (hk:k<(hrN s.tab v).length),(hrN s.tab v).take (k+1)=(hrN s.tab v).take k++[(hrN s.tab v)[k]]):=zhd fun k hk=>(List.take_append_getElem hk).symm
 obtain ⟨H,hH⟩:∃H,H=hrN s.tab v:=⟨_,rfl⟩
 rw[←hH]at cv HQ HC HNL HMEM HTK ⊢
 have hag:Agree T W W:=.refl _ _
 have hNN:H.length≤120:=by have:=HNL.out;omega
 clear hJ hJx hY h0 R1 R2 R3 V hTw iv hL R hln hH
 refine callsIn_of_wp Tryz.func86 rfl trivial ?_ rfl
 simp only[Tryz.ntmps86,List.size_toArray,List.length_cons,List.length_nil,Nat.reduceAdd,Nat.reduceSub,Array.replicate_succ,Array.replicate_zero,List.push_toArray,List.append_toArray,List.nil_append,List.cons_append]
 gi_wp2
 gi_quiet (fail)
 have H1:=zhd (zfr HJ.out H0.out ⟨nq,rfl⟩)
 have hag1:Agree T W (W.drewN nq):=zt T W nq
 clear p1 p2 l1 l2 lg p12 lq cv bv hag H0
 gi_wp2
 gi_loopw [6,15] (fun _ i wr=>∃(k:Nat) (pre:List (Hrd s.tab v)),k≤H.length∧i=.int .i64 k∧Hid (J pre wr)∧Hid (pre.map (·.1)=H.take k)∧Agree T W wr) (fun _ i _=>H.length - (intOf i).toNat)
 case atStart=>exact ⟨0,[],Nat.zero_le _,rfl,H1,zhd rfl,hag1⟩
 case round=>
  clear hag1 H1
  obtain ⟨k,pre,hk,rfl,HJs,HP,hA⟩:=hrel
  by_cases hlt:k<H.length
  case neg=>
   obtain rfl:k=H.length:=by omega
   have HPE:Hid (pre.map (·.1)=H):=zhd (by rw[HP.out,List.take_length])
   gi_wp2
   go_end0
   exact ⟨⟨_,rfl⟩,.inl ⟨pre,HPE.out,HJs.out⟩⟩
  have q1:=HQ.out k hlt
  have c1:=HC.out wr hA k hlt
  have hm:=HMEM.out k hlt
  have HTKk:=zhd (HTK.out k hlt)
  obtain ⟨u,hu⟩:∃u,u=H[k]:=⟨_,rfl⟩
  rw[←hu]at c1 hm HTKk
  have KR2:=zhd (KR.out u hm.1 wr hA)
  have b1:=World.block_lt_of_cell? _ _ c1
  have p1:=(HR1.out wr hA).zc 0 rfl
  have p2:=(HR2.out wr hA).zc 0 rfl
  have p3:=(HR3.out wr hA).zc 0 rfl
  have l1:=(HR1.out wr hA).lt
  have l2:=(HR2.out wr hA).lt
  have l3:=(HR3.out wr hA).lt
  have HHM:=zhd hm
  have HPN:Hid ((pre++[(⟨u,HHM.out⟩:Hrd s.tab v)]).map (·.1)=H.take (k+1)):=zhd (by rw[HTKk.out,List.map_append,HP.out];rfl)
  have HPX:Hid ((pre++[(⟨u,HHM.out⟩:Hrd s.tab v)]).map (·.1)<+:H):=zhd (by rw[HPN.out];exact List.take_prefix _ _)
  have hpl:pre.length<s.tab.length:=by
   have h2:=congrArg List.length HP.out
   rw[List.length_map,List.length_take]at h2
   have:=HNL.out
   omega
  have HPL:=zhd hpl
  obtain ⟨y,hy⟩:∃y,y=repT s.tab u v x:=⟨_,rfl⟩
  rw[←hy]at KR2
  have HYE:=zhd hy
  clear hu hm hy hpl
  gi_wp2_with fail
  refine ⟨trivial,(callsIn_wide.2 KR2.out).mono ?_⟩
  rintro _ w1 ⟨_,rfl,hb,rfl⟩
  replace HJs:=zhd (zfA HJ.out HJs.out hb)
  replace hA:Agree T W w1:=hA.trans (.of_ext hb)
  clear KR2 p1 p2 p3 l1 l2 l3 c1 b1 q1 hb
  obtain ⟨fn,tmps,assign,body,hyy,hRnd⟩:=HY.out pre ⟨u,HHM.out⟩ _ HJs.out HPL.out
  dsimp only at hyy
  rw[←HYE.out]at hyy
  gi_wp2
  refine hRnd.mono ?_
  rintro e W3 (⟨rfl,hJ3,hk3⟩ | ⟨rfl,hJx3⟩)
  ·have HJ3:=zhd hJ3
   have hA3:=hA.trans hk3
   clear hJ3 hyy hRnd
   gi_wp2
   go_roundw
   case rel=>exact ⟨k+1,_,by omega,by go_num,HJ3,HPN,hA3⟩
   case measure=>simp[intOf];omega
  ·have HJ3:=zhd hJx3
   clear hJx3 hyy hRnd
   gi_wp2
   refine bodyPost_ret (results_none rfl _ _ _) rfl ?_
   exact ⟨⟨_,rfl⟩,.inr ⟨_,HPX.out,HJ3.out⟩⟩
theorem Ql {A S2:Nat→Prop} {w:World} {g v x:Nat} {vl:Value} {s:SysF} {ch L:List Int} (h:ScnV A w g s ch) (h2:Ints S2 w vl L) (hl:L.length=s.tab.length) (hv:v<s.tab.length) (hx:x<s.tab.length):
  Calls Tryz.prog 62 #[.pointer (some ⟨g,0,none⟩),vl,.int .i64 v,.int .i64 x] w (Post w fun _ r=>r=.bool (folB s.tab (nth L) v x)):=by
 obtain ⟨a2,c2,rfl,_⟩:=h2.form
 have HVB:=h.block
 have hfew:=h.dat.few
 have HY:Hid ((∀u,u<s.tab.length→hrsB s.tab u v=true→0≤repT s.tab u v x∧nth L (repT s.tab u v x).toNat=nth L u)→folB s.tab (nth L) v x=true):=zhd ym.2
 have HN:Hid (∀u,u<s.tab.length→hrsB s.tab u v=true→¬(0≤repT s.tab u v x∧nth L (repT s.tab u v x).toNat=nth L u)→folB s.tab (nth L) v x=false):=zhd fun u hu hh hk=>zeE hu hh hk
 have HB:Hid (∀u, -1≤repT s.tab u v x∧repT s.tab u v x<s.tab.length):=zhd fun u=>xO
 have HMEM:Hid (∀u,u∈hrN s.tab v↔u<s.tab.length∧hrsB s.tab u v=true):=zhd fun u=>Yv
 have HQ:Hid (∀k,k<s.tab.length→∀W:World,(Instr.indexAt 36 (.slice a2 L.length c2) (.int .i64 k)).run Tryz.prog W=.ok (.pointer (some (adr a2 k))) W):=zhd fun k hk W=>h2.idx (by omega) W
 have HC:Hid (∀k,k<s.tab.length→w.cell? (adr a2 k)=some (.int .i64 (nth L k))):=zhd fun k hk=>h2.cellN (by omega)
 obtain ⟨r,hr⟩:∃r,r=folB s.tab (nth L) v x:=⟨_,rfl⟩
 rw[←hr]at HY HN ⊢
 obtain ⟨n,hn⟩:∃n,n=L.length:=⟨_,rfl⟩
 rw[←hn]at HQ ⊢
 have ex:=zg (ze w (.cells #[.slice a2 n c2] 36)) (.cells #[.bool false] 4)
 have RC:=(zh w [.slice a2 n c2] 36).alloc (.cells #[.bool false] 4)
 have RR:=zh (w.alloc (.cells #[.slice a2 n c2] 36)) [.bool false] 4
 rw[World.size_alloc]at RR
 have HV0:=zhd (HVB.ext ex)
 obtain ⟨B0,hB0⟩:∃B0,B0=w.heap.size:=⟨_,rfl⟩
 obtain ⟨B1,hB1⟩:∃B1,B1=w.heap.size+1:=⟨_,rfl⟩
 obtain ⟨w1,hw1⟩:∃w1,w1=((w.alloc (.cells #[.slice a2 n c2] 36)).alloc (.cells #[.bool false] 4)):=⟨_,rfl⟩
 have HBB:Hid (w.heap.size≤B0∧w.heap.size≤B1∧B0=w.heap.size):=zhd ⟨by omega,by omega,hB0⟩
 rw[←hB1]at RR
 rw[←hB0]at RC
 rw[←hw1]at RC RR ex HV0
 have HW1:=zhd hw1
 have HB0:=zhd hB0
 have HB1:=zhd hB1
 have KT:=zhd (ZY w1 g v x)
 have HEX1:=zhd ex
 have HNE:Hid (n=s.tab.length):=zhd (hn.trans hl)
 clear h h2 hl hr hn hw1 hB0 hB1 HVB ex
 refine (callsIn_wide (n:=6)).1 ?_
 refine callsIn_of_wp_marks Tryz.func62 rfl trivial ?_ rfl
 simp only[Tryz.ntmps62,List.size_toArray,List.length_cons,List.length_nil,Nat.reduceAdd,Nat.reduceSub,Array.replicate_succ,Array.replicate_zero,List.push_toArray,List.append_toArray,List.nil_append,List.cons_append]
 gi_wp2_with fail
 rw[←HW1.out,←HB1.out,←HB0.out]
 refine ⟨trivial,(callsIn_wide.2 KT.out).mono ?_⟩
 rintro _ _ ⟨rfl,rfl⟩
 have e3:=zg (zg (ze w1 (.cells #[.pointer (some ⟨g,0,none⟩)] 83)) (.cells #[.int .i64 v] 3)) (.cells #[.int .i64 x] 3)
 have P1:=((zh w1 [.pointer (some ⟨g,0,none⟩)] 83).alloc (.cells #[.int .i64 v] 3)).alloc (.cells #[.int .i64 x] 3)
 have P2:=(zh (w1.alloc (.cells #[.pointer (some ⟨g,0,none⟩)] 83)) [.int .i64 v] 3).alloc (.cells #[.int .i64 x] 3)
 have P3:=zh ((w1.alloc (.cells #[.pointer (some ⟨g,0,none⟩)] 83)).alloc (.cells #[.int .i64 v] 3)) [.int .i64 x] 3
 simp only[World.size_alloc]at P2 P3
 obtain ⟨N1,hN1⟩:∃N1,N1=w1.heap.size:=⟨_,rfl⟩
 obtain ⟨N2,hN2⟩:∃N2,N2=w1.heap.size+1:=⟨_,rfl⟩
 obtain ⟨N3,hN3⟩:∃N3,N3=w1.heap.size+1+1:=⟨_,rfl⟩
 obtain ⟨w3,hw3⟩:∃w3,w3=((w1.alloc (.cells #[.pointer (some ⟨g,0,none⟩)] 83)).alloc (.cells #[.int .i64 v] 3)).alloc (.cells #[.int .i64 x] 3):=⟨_,rfl⟩
 rw[←hN3]at P3
 rw[←hN2]at P2
 rw[←hN1]at P1
 rw[←hw3]at P1 P2 P3 e3
 rw[←hw3,←hN3,←hN2,←hN1]
 have hx3:=zb HEX1.out e3
 have RC3:=RC.ext e3
 have RR3:=RR.ext e3
 have HV3:=zhd (HV0.out.ext e3)
 have zw:=hx3.size
 have zR:=RR3.lt
 clear hw3 KT HV0 RC RR
 have hTw:∀b,(b<w.heap.size∨b=N1∨b=N2∨b=N3)→b<w3.heap.size:=fun b hb=>by have:=P1.lt;have:=P2.lt;have:=P3.lt;omega
 have HST:=ZP (T:=fun b=>b<w.heap.size∨b=N1∨b=N2∨b=N3) (n:=5) (by decide) P1 P2 P3 (HV3.out.mono fun b hb=>.inl hb.2) hv hx (.inr (.inl rfl)) (.inr (.inr (.inl rfl))) (.inr (.inr (.inr rfl))) hTw
 clear hN1 hN2 hN3 P1 P2 P3 e3
 gi_wp2
 apply wpIn_rangeFunc_ownF (n:=6) rfl (by decide) (gf:=86) (lb:=#[.pointer (some ⟨N1,0,none⟩),.pointer (some ⟨N2,0,none⟩),.pointer (some ⟨N3,0,none⟩)]) rfl trivial (enters_of Tryz.func86 (by kernel_rfl) rfl)
  HST xA (xp hTw) (Below.refl _ _) (fun _=>rfl)
  (fun (pre:List (Hrd s.tab v)) W=>(∀u∈pre,(0≤repT s.tab u.1 v x∧nth L (repT s.tab u.1 v x).toNat=nth L u.1))∧Below w3.heap.size w3 W)
  (fun c (pre:List (Hrd s.tab v)) W=>c=.ret∧r=false∧Row W B1 4 [.bool false]∧Below w.heap.size w W)
  (OwnFrom.and (ownFrom_pure _ _) (ownFrom_below (Nat.le_refl _) (Nat.le_refl _)))
  (fun c=>OwnFrom.and (ownFrom_pure _ _) (OwnFrom.and (ownFrom_pure _ _) (OwnFrom.and (yt (xs:=fun _=>[.bool false]) zR) (ownFrom_below (Nat.le_refl _) zw))))
  ⟨by simp,Below.refl _ _⟩
 case hassign=>
  intro l u W Kq hK
  have hK:=zhd hK
  gi_wp2
  exact hK.out
 case hbody=>
  rintro l pre ⟨u,hu,hh⟩ W ⟨hgd,hB⟩ hlen
  dsimp only
  have zzPC:=RC3.ext hB
  have PR:=RR3.ext hB
  have hBw3:Below w.heap.size w W:=zb hx3 hB
  have c0:=zzPC.zc 0 rfl
  have p0:=PR.zc 0 rfl
  have f0:=PR.free 0
  have lc:=zzPC.lt
  have lr:=PR.lt
  have hrg:=HB.out u
  have HGD:=zhd hgd
  have HNu:=zhd (HN.out u hu hh)
  have cu:=zj (HC.out u hu) hBw3
  have qu:=HQ.out u hu
  have bu:=World.block_lt_of_cell? _ _ cu
  obtain ⟨y,hy⟩:∃y,y=repT s.tab u v x:=⟨_,rfl⟩
  have HYY:=zhd hy
  rw[←hy]at hrg HNu ⊢
  obtain ⟨lu,hlu⟩:∃l,l=nth L u:=⟨_,rfl⟩
  rw[←hlu]at cu HNu
  have HLU:=zhd hlu
  have FIN:Hid (r=false→∀W',(W'=W.drew.setCell ⟨B1,0,none⟩ (.bool false)∨W'=(W.setCell ⟨B1,0,none⟩ (.bool false)).drew)→KeepsOthers W W'∧r=false∧Row W' B1 4 [.bool false]∧Below w.heap.size w W'):=zhd fun hr0 W' hW'=>by
   rcases hW' with hW' | hW'
   ·subst hW'
    exact ⟨(zV (zf W.heap.size W 1)).trans (.setCell _ _ _),hr0,(PR.ext (zf _ _ 1)).set 0 _,(zb hBw3 (zf _ _ 1)).setCell (by have:=HBB.out.2.1;simpa using this) _⟩
   ·subst hW'
    exact ⟨(KeepsOthers.setCell W _ _).trans (zV (zf _ _ 1)),hr0,(PR.set 0 (.bool false)).ext (zf _ _ 1),(hBw3.setCell (p:=⟨B1,0,none⟩) (by have:=HBB.out.2.1;simpa using this) (.bool false)).trans (zf _ _ 1)⟩
  have KPN:Hid (∀nq,KeepsOthers W (W.drewN nq)∧Agree (fun b=>b<w.heap.size∨b=N1∨b=N2∨b=N3) W (W.drewN nq)∧Below w3.heap.size w3 (W.drewN nq)):=zhd fun nq=>⟨zV (zf W.heap.size W nq),zt _ _ _,zb hB (zf _ _ nq)⟩
  clear hgd hlu zzPC PR hlen hB hBw3
  by_cases hy0:y<0
  ·have d0:decide (y<0)=true:=decide_eq_true hy0
   have HF:=zhd (FIN.out (HNu.out fun h=>by omega))
   clear hrg hy FIN
   gi_wp2
   refine qd (fun w':World=>w'.cell? ⟨B0,0,none⟩=some (.slice a2 n c2)) (fun i=>false) (by kernel_rfl) (by kernel_rfl) (by rintro ⟨_,_,h⟩;exact h) ?_ (fun hHeld=>?_)
   ·exact c0
   refine zu 0 (v:=?_) rfl (by kernel_rfl) (fun _ _ _ h=>h) (by rfl) ?hy0a hHeld ?r0a
   case hy0a=>(intro w hSw;(try dsimp only at hSw);go_simp;try with_reducible rfl)
   try simp only[Act.put,zsa,zsz,zss]
   refine zu 1 (v:=?_) rfl (by kernel_rfl) (fun _ _ _ h=>h) (by rfl) ?hy1a hHeld ?r1a
   case hy1a=>(intro w hSw;(try dsimp only at hSw);go_simp;try with_reducible rfl)
   try simp only[Act.put,zsa,zsz,zss]
   refine zu 2 (v:=?_) rfl (by kernel_rfl) (fun _ _ _ h=>h) (by rfl) ?hy2a hHeld ?r2a
   case hy2a=>(intro w hSw;(try dsimp only at hSw);go_simp;try with_reducible rfl)
   try simp only[Act.put,zsa,zsz,zss]
   refine zo 3 rfl (by kernel_rfl) (fun _ _ _ h=>h) (by rfl) hHeld ?_
   try simp only[Act.put,zsa,zsz,zss]
   refine zo 4 rfl (by kernel_rfl) (fun _ _ _ h=>h) (by rfl) hHeld ?_
   try simp only[Act.put,zsa,zsz,zss]
   refine zo 5 rfl (by kernel_rfl) (fun _ _ _ h=>h) (by rfl) hHeld ?_
   try simp only[Act.put,zsa,zsz,zss]
   refine zo 6 rfl (by kernel_rfl) (fun _ _ _ h=>h) (by rfl) hHeld ?_
   try simp only[Act.put,zsa,zsz,zss]
   refine zo 7 rfl (by kernel_rfl) (fun _ _ _ h=>h) (by rfl) hHeld ?_
   try simp only[Act.put,zsa,zsz,zss]
   refine zo 8 rfl (by kernel_rfl) (fun _ _ _ h=>h) (by rfl) hHeld ?_
   try simp only[Act.put,zsa,zsz,zss]
   refine zo 9 rfl (by kernel_rfl) (fun _ _ _ h=>h) (by rfl) hHeld ?_
   try simp only[Act.put,zsa,zsz,zss]
   refine zo 10 rfl (by kernel_rfl) (fun _ _ _ h=>h) (by rfl) hHeld ?_
   try simp only[Act.put,zsa,zsz,zss]
   refine zo 11 rfl (by kernel_rfl) (fun _ _ _ h=>h) (by rfl) hHeld ?_
   try simp only[Act.put,zsa,zsz,zss]
   refine zu 12 (v:=?_) rfl (by kernel_rfl) (fun _ _ _ h=>h) (by rfl) ?hy12a hHeld ?r12a
   case hy12a=>(intro w hSw;(try dsimp only at hSw);go_simp;try with_reducible rfl)
   try simp only[Act.put,zsa,zsz,zss]
   refine zy (by kernel_rfl) ?_ _
   clear hHeld
   gi_wp2
   exact ⟨(HF.out _ (by first | exact .inl rfl | exact .inr rfl)).1,rfl,(HF.out _ (by first | exact .inl rfl | exact .inr rfl)).2⟩
  obtain ⟨z,hz⟩:∃z:Nat,y=z:=⟨y.toNat,by omega⟩
  have hzn:z<s.tab.length:=by omega
  have cz:=zj (HC.out z hzn) (show Below w.heap.size w W from zb hx3 (by have:=(KPN.out 0).2.2;exact this))
  have qz:=HQ.out z hzn
  have bz:=World.block_lt_of_cell? _ _ cz
  have HNz:Hid (nth L z≠lu→r=false):=zhd fun hne=>HNu.out fun h=>hne (by have:=h.2;rw[hz,Int.toNat_natCast]at this;exact this)
  have HOKz:Hid (nth L z=lu→(0≤repT s.tab u v x∧nth L (repT s.tab u v x).toNat=nth L u)):=zhd fun he=>by rw[←HYY.out,hz,Int.toNat_natCast,←HLU.out];exact ⟨by omega,he⟩
  obtain ⟨lz,hlz⟩:∃l,l=nth L z:=⟨_,rfl⟩
  rw[←hlz]at cz HNz HOKz
  have d0:decide ((z:Int)<0)=false:=decide_eq_false (by omega)
  rw[hz]
  clear hy hz hlz hrg hy0 HYY HNu HLU
  by_cases he:lz=lu
  ·have d1:(lz !=lu)=false:=by simp[he]
   have HOK:=zhd (HOKz.out he)
   clear he HNz HOKz FIN
   gi_wp2
   refine qd (fun w':World=>w'.cell? ⟨B0,0,none⟩=some (.slice a2 n c2)∧w'.cell? (adr a2 u)=some (.int .i64 lu)∧w'.cell? (adr a2 z)=some (.int .i64 lz)) (fun i=>false) (by kernel_rfl) (by kernel_rfl) (by rintro ⟨_,_,h⟩;exact h) ?_ (fun hHeld=>?_)
   ·exact ⟨c0,cu,cz⟩
   refine zu 0 (v:=?_) rfl (by kernel_rfl) (fun _ _ _ h=>h) (by rfl) ?hy0b hHeld ?r0b
   case hy0b=>(intro w hSw;(try dsimp only at hSw);go_simp;try with_reducible rfl)
   try simp only[Act.put,zsa,zsz,zss]
   refine zu 1 (v:=?_) rfl (by kernel_rfl) (fun _ _ _ h=>h) (by rfl) ?hy1b hHeld ?r1b
   case hy1b=>(intro w hSw;(try dsimp only at hSw);go_simp;try with_reducible rfl)
   try simp only[Act.put,zsa,zsz,zss]
   refine zu 2 (v:=?_) rfl (by kernel_rfl) (fun _ _ _ h=>h) (by rfl) ?hy2b hHeld ?r2b
   case hy2b=>(intro w hSw;(try dsimp only at hSw);go_simp;try with_reducible rfl)
   try simp only[Act.put,zsa,zsz,zss]
   refine zu 3 (v:=?_) rfl (by kernel_rfl) (fun _ _ _ h=>h) (by rfl) ?hy3b hHeld ?r3b
   case hy3b=>(intro w hSw;(try dsimp only at hSw);go_simp;try with_reducible rfl)
   try simp only[Act.put,zsa,zsz,zss]
   refine zu 4 (v:=?_) rfl (by kernel_rfl) (fun _ _ _ h=>h) (by rfl) ?hy4b hHeld ?r4b
   case hy4b=>(intro w hSw;(try dsimp only at hSw);go_simp;try with_reducible rfl)
   try simp only[Act.put,zsa,zsz,zss]
   refine zu 5 (v:=?_) rfl (by kernel_rfl) (fun _ _ _ h=>h) (by rfl) ?hy5b hHeld ?r5b
   case hy5b=>(intro w hSw;(try dsimp only at hSw);go_simp;try with_reducible rfl)
   try simp only[Act.put,zsa,zsz,zss]
   refine zu 6 (v:=?_) rfl (by kernel_rfl) (fun _ _ _ h=>h) (by rfl) ?hy6b hHeld ?r6b
   case hy6b=>(intro w hSw;(try dsimp only at hSw);go_simp;try with_reducible rfl)
   try simp only[Act.put,zsa,zsz,zss]
   refine zu 7 (v:=?_) rfl (by kernel_rfl) (fun _ _ _ h=>h) (by rfl) ?hy7b hHeld ?r7b
   case hy7b=>(intro w hSw;(try dsimp only at hSw);go_simp;try with_reducible rfl)
   try simp only[Act.put,zsa,zsz,zss]
   refine zu 8 (v:=?_) rfl (by kernel_rfl) (fun _ _ _ h=>h) (by rfl) ?hy8b hHeld ?r8b
   case hy8b=>(intro w hSw;(try dsimp only at hSw);go_simp;try with_reducible rfl)
   try simp only[Act.put,zsa,zsz,zss]
   refine zu 9 (v:=?_) rfl (by kernel_rfl) (fun _ _ _ h=>h) (by rfl) ?hy9b hHeld ?r9b
   case hy9b=>(intro w hSw;(try dsimp only at hSw);go_simp;try with_reducible rfl)
   try simp only[Act.put,zsa,zsz,zss]
   refine zu 10 (v:=?_) rfl (by kernel_rfl) (fun _ _ _ h=>h) (by rfl) ?hy10b hHeld ?r10b
   case hy10b=>(intro w hSw;(try dsimp only at hSw);go_simp;try with_reducible rfl)
   try simp only[Act.put,zsa,zsz,zss]
   refine zu 11 (v:=?_) rfl (by kernel_rfl) (fun _ _ _ h=>h) (by rfl) ?hy11b hHeld ?r11b
   case hy11b=>(intro w hSw;(try dsimp only at hSw);go_simp;try with_reducible rfl)
   try simp only[Act.put,zsa,zsz,zss]
   refine zu 12 (v:=?_) rfl (by kernel_rfl) (fun _ _ _ h=>h) (by rfl) ?hy12b hHeld ?r12b
   case hy12b=>(intro w hSw;(try dsimp only at hSw);go_simp;try with_reducible rfl)
   try simp only[Act.put,zsa,zsz,zss]
   refine zy (by kernel_rfl) ?_ _
   clear hHeld
   gi_wp2
   exact ⟨(KPN.out _).1,(KPN.out _).2.1,fun q hq=>by
    rcases List.mem_append.1 hq with hq | hq
    ·exact HGD.out q hq
    ·rw[List.mem_singleton.1 hq];exact HOK.out,(KPN.out _).2.2⟩
  ·have d1:(lz !=lu)=true:=by simp[he]
   have HF:=zhd (FIN.out (HNz.out he))
   clear he HNz HOKz FIN
   gi_wp2
   refine qd (fun w':World=>w'.cell? ⟨B0,0,none⟩=some (.slice a2 n c2)∧w'.cell? (adr a2 u)=some (.int .i64 lu)∧w'.cell? (adr a2 z)=some (.int .i64 lz)) (fun i=>false) (by kernel_rfl) (by kernel_rfl) (by rintro ⟨_,_,h⟩;exact h) ?_ (fun hHeld=>?_)
   ·exact ⟨c0,cu,cz⟩
   refine zu 0 (v:=?_) rfl (by kernel_rfl) (fun _ _ _ h=>h) (by rfl) ?hy0c hHeld ?r0c
   case hy0c=>(intro w hSw;(try dsimp only at hSw);go_simp;try with_reducible rfl)
   try simp only[Act.put,zsa,zsz,zss]
   refine zu 1 (v:=?_) rfl (by kernel_rfl) (fun _ _ _ h=>h) (by rfl) ?hy1c hHeld ?r1c
   case hy1c=>(intro w hSw;(try dsimp only at hSw);go_simp;try with_reducible rfl)
   try simp only[Act.put,zsa,zsz,zss]
   refine zu 2 (v:=?_) rfl (by kernel_rfl) (fun _ _ _ h=>h) (by rfl) ?hy2c hHeld ?r2c
   case hy2c=>(intro w hSw;(try dsimp only at hSw);go_simp;try with_reducible rfl)
   try simp only[Act.put,zsa,zsz,zss]
   refine zu 3 (v:=?_) rfl (by kernel_rfl) (fun _ _ _ h=>h) (by rfl) ?hy3c hHeld ?r3c
   case hy3c=>(intro w hSw;(try dsimp only at hSw);go_simp;try with_reducible rfl)
   try simp only[Act.put,zsa,zsz,zss]
   refine zu 4 (v:=?_) rfl (by kernel_rfl) (fun _ _ _ h=>h) (by rfl) ?hy4c hHeld ?r4c
   case hy4c=>(intro w hSw;(try dsimp only at hSw);go_simp;try with_reducible rfl)
   try simp only[Act.put,zsa,zsz,zss]
   refine zu 5 (v:=?_) rfl (by kernel_rfl) (fun _ _ _ h=>h) (by rfl) ?hy5c hHeld ?r5c
   case hy5c=>(intro w hSw;(try dsimp only at hSw);go_simp;try with_reducible rfl)
   try simp only[Act.put,zsa,zsz,zss]
   refine zu 6 (v:=?_) rfl (by kernel_rfl) (fun _ _ _ h=>h) (by rfl) ?hy6c hHeld ?r6c
   case hy6c=>(intro w hSw;(try dsimp only at hSw);go_simp;try with_reducible rfl)
   try simp only[Act.put,zsa,zsz,zss]
   refine zu 7 (v:=?_) rfl (by kernel_rfl) (fun _ _ _ h=>h) (by rfl) ?hy7c hHeld ?r7c
   case hy7c=>(intro w hSw;(try dsimp only at hSw);go_simp;try with_reducible rfl)
   try simp only[Act.put,zsa,zsz,zss]
   refine zu 8 (v:=?_) rfl (by kernel_rfl) (fun _ _ _ h=>h) (by rfl) ?hy8c hHeld ?r8c
   case hy8c=>(intro w hSw;(try dsimp only at hSw);go_simp;try with_reducible rfl)
   try simp only[Act.put,zsa,zsz,zss]
   refine zu 9 (v:=?_) rfl (by kernel_rfl) (fun _ _ _ h=>h) (by rfl) ?hy9c hHeld ?r9c
   case hy9c=>(intro w hSw;(try dsimp only at hSw);go_simp;try with_reducible rfl)
   try simp only[Act.put,zsa,zsz,zss]
   refine zu 10 (v:=?_) rfl (by kernel_rfl) (fun _ _ _ h=>h) (by rfl) ?hy10c hHeld ?r10c
   case hy10c=>(intro w hSw;(try dsimp only at hSw);go_simp;try with_reducible rfl)
   try simp only[Act.put,zsa,zsz,zss]
   refine zu 11 (v:=?_) rfl (by kernel_rfl) (fun _ _ _ h=>h) (by rfl) ?hy11c hHeld ?r11c
   case hy11c=>(intro w hSw;(try dsimp only at hSw);go_simp;try with_reducible rfl)
   try simp only[Act.put,zsa,zsz,zss]
   refine zu 12 (v:=?_) rfl (by kernel_rfl) (fun _ _ _ h=>h) (by rfl) ?hy12c hHeld ?r12c
   case hy12c=>(intro w hSw;(try dsimp only at hSw);go_simp;try with_reducible rfl)
   try simp only[Act.put,zsa,zsz,zss]
   refine zy (by kernel_rfl) ?_ _
   clear hHeld
   gi_wp2
   exact ⟨(HF.out _ (by first | exact .inl rfl | exact .inr rfl)).1,rfl,(HF.out _ (by first | exact .inl rfl | exact .inr rfl)).2⟩
 case hstop=>
  rintro D c pre W hD hSp ⟨rfl,hrf,PB,hBw3⟩ hK
  gi_wp2
  refine ⟨by simp,.inl ⟨_,_,rfl,run_takeDeferred hK,?_⟩⟩
  have P9:=PB.putObj (.deferred none) hK rfl
  have hB9:=hBw3.grown (grownBy_putObj' _ D (.deferred none)) hBw3.size (fun k hk=>by cases hk;omega)
  have q9:=P9.zc 0 rfl
  exact ⟨.bool false,by simp[results,Tryz.results62,go_sem,q9],.mk hB9 (zr hrf.symm)⟩
 case hdone=>
  rintro D xs W hD hS ⟨hgd,hB⟩ hK
  have hrt:r=true:=HY.out fun u hu hh=>by
   have hm:=(HMEM.out u).2 ⟨hu,hh⟩
   rw[←hS]at hm
   obtain ⟨q,hq,rfl⟩:=List.mem_map.1 hm
   exact hgd q hq
  have HRT:=zhd hrt
  have PN:=RR3.ext hB
  have hBw3:Below w.heap.size w W:=zb hx3 hB
  have q0:=PN.zc 0 rfl
  have f0:=PN.free 0
  have l0:=PN.lt
  clear hgd hS hrt
  have KD:(W.setCell ⟨B1,0,none⟩ (.bool true)).heap[D]? =some (.deferred (some [])):=(KeepsOthers.setCell W _ _).same D _ hK rfl
  have P9:=(PN.set 0 (.bool true)).putObj (.deferred none) KD rfl
  have hB8:Below w.heap.size w (W.setCell ⟨B1,0,none⟩ (.bool true)):=hBw3.setCell (by have:=HBB.out.2.1;simpa using this) _
  have hB9:=hB8.grown (grownBy_putObj' _ D (.deferred none)) hB8.size (fun k hk=>by cases hk;omega)
  have q9:=P9.zc 0 rfl
  gi_wp2
  refine ⟨by simp,.inl ⟨_,_,rfl,run_takeDeferred KD,?_⟩⟩
  exact ⟨.bool true,by simp[results,Tryz.results62,go_sem,q9],.mk hB9 (zr HRT.out.symm)⟩
end Go.Proofs.YtfjlhjkjjbiliaaGreat
