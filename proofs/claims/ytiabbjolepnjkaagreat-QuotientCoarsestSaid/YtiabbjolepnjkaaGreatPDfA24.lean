/- Part of the proof that the laws answer true for every input. -/
import Derived.Test.YtiabbjolepnjkaaGreatPDfA22
import Derived.Sort.QuietIn
set_option linter.unusedSimpArgs false
set_option linter.unnecessarySimpa false
set_option linter.unusedVariables false
set_option maxRecDepth 100000
set_option maxHeartbeats 40000000
namespace Go.Proofs.YtiabbjolepnjkaaGreat
open Go.RowKit
attribute [local go_sem ↓] Go.wp_at_zero Go.wp_at_succ
def chkQ (s:SysF) (ch cl:List Int):Int:=if checkS cl=0 then (if cl.length=s.tab.length then (if fitB s.tab ch cl then 0 else 18) else 15) else checkS cl
def verQ (s:SysF) (ch cl:List Int):Int:=if ruleE s ch=0 then chkQ s ch cl else ruleE s ch
end Go.Proofs.YtiabbjolepnjkaaGreat
namespace Go.Proofs.YtiabbjolepnjkaaGreat
open Go.RowKit Go.Shelf
attribute [local go_sem ↓] Go.wp_at_zero Go.wp_at_succ
theorem zbh (w:World) (n:Nat):w.grownBy (w.drewN n) none:=⟨rfl,rfl,rfl,Nat.le_refl _,fun _ _ _=>rfl⟩
theorem QW.grown {w w':World} (h:QW w w'):w.grownBy w' none:=by obtain ⟨n,rfl⟩:=h;exact zbh w n
theorem zhO {β:Type} {B:Nat} {J:β→World→Prop} (hJ:AbidesFrom B J) {s:β} {W W':World} (h:J s W) (hq:QW W W'):J s W':=hJ s W W' none h hq.grown (fun r e=>by cases e)
end Go.Proofs.YtiabbjolepnjkaaGreat
namespace Go.Proofs.YtiabbjolepnjkaaGreat
open Go.RowKit Go.Shelf
attribute [local go_sem ↓] Go.wp_at_zero Go.wp_at_succ
attribute [local go_sem] Oper.semAt_some
theorem zdr {w w':World} (h:Below w.heap.size w w'):w.grownBy w' none:=⟨h.os,h.tape,h.output,h.size,fun k hk _=>h.block k hk⟩
theorem zht {β:Type} {B:Nat} {J:β→World→Prop} (hJ:AbidesFrom B J) {s:β} {W W':World} (h:J s W) (hq:Below W.heap.size W W'):J s W':=hJ s W W' none h (zdr hq) (fun r e=>by cases e)
def hrN (T:List (List Int)) (v:Nat):List Nat:=(List.range T.length).filter fun u=>hrsB T u v
theorem zhg (T:List (List Int)) (v:Nat):hrdL T T.length v=(hrN T v).map fun u:Nat=>(u:Int):=rfl
theorem zjl (T:List (List Int)) (v:Nat):(hrN T v).length≤T.length:=by
 unfold hrN;exact Nat.le_trans (List.length_filter_le _ _) (by simp)
theorem Xd {T:List (List Int)} {v u:Nat}:u∈hrN T v↔u<T.length∧hrsB T u v=true:=by unfold hrN;rw[List.mem_filter,List.mem_range]
theorem zeQ {S:Nat→Prop} {w:World} {a:Option Addr} {n c:Nat} {l:List (List Int)} (h:Lists S w (.slice a n c) l) {k:Nat} (hk:k<l.length) (W:World):(Instr.indexAt 146 (.slice a n c) (.int .i64 k)).run Tryz.prog W=.ok (.pointer (some (adr a k))) W:=by
 obtain ⟨_,_,hee,ad,_⟩:=h.form;cases hee;obtain ⟨i0,hi,_,hz1,_⟩:=info_parts zW;exact zL Tryz.underlying146 hi hz1 ad k hk W
abbrev Hrd (T:List (List Int)) (v:Nat):Type:={u:Nat // u<T.length∧hrsB T u v=true}
theorem Qc (w:World) (g:Nat) (v x:Int):Calls Tryz.prog 89 #[.pointer (some ⟨g,0,none⟩),v,x] w fun q w'=>q=.returned (.func (.func 123) #[] #[.pointer (some ⟨w.heap.size,0,none⟩),.pointer (some ⟨w.heap.size+1,0,none⟩),.pointer (some ⟨w.heap.size+1+1,0,none⟩)])∧w'=((w.alloc (.cells #[.pointer (some ⟨g,0,none⟩)] 103)).alloc (.cells #[v] 3)).alloc (.cells #[x] 3):=by
 go_enter Tryz.func89,Tryz.ntmps89;go_wp2;go_ret;exact ⟨rfl,rfl⟩
theorem Qd {T:Nat→Prop} {w:World} {n B1 B2 B3 g v x:Nat} {s:SysF} {ch:List Int} (hn:1≤n) (R1:Row w B1 103 [.pointer (some ⟨g,0,none⟩)]) (R2:Row w B2 3 [v]) (R3:Row w B3 3 [x]) (V:ScnV T w g s ch)
  (hv:v<s.tab.length) (hx:x<s.tab.length) (hT1:T B1) (hT2:T B2) (hT3:T B3) (hTw:∀b,T b→b<w.heap.size):
  SeqStopsK Fence.wide n Tryz.prog 123 #[.pointer (some ⟨B1,0,none⟩),.pointer (some ⟨B2,0,none⟩),.pointer (some ⟨B3,0,none⟩)] (fun u:Hrd s.tab v=>#[.int .i64 u.1,.int .i64 (repT s.tab u.1 v x)]) (Agree T) (fun l=>l.map (·.1)=hrN s.tab v) (fun pre=>pre.map (·.1)<+:hrN s.tab v) s.tab.length w:=by
 intro l J Jx W hW hJ hJx hY h0;have HY:=zhd hY;have H0:=zhd h0;have HJ:=zhd hJ;have R1:=R1.ext hW;have R2:=R2.ext hW;have R3:=R3.ext hW;have V:=V.ext hW;have HR1:Hid (∀W',Agree T W W'→Row W' B1 103 [.pointer (some ⟨g,0,none⟩)]):=zhd fun W' h=>R1.agree h hT1;have HR2:Hid (∀W',Agree T W W'→Row W' B2 3 [v]):=zhd fun W' h=>R2.agree h hT2;have HR3:Hid (∀W',Agree T W W'→Row W' B3 3 [x]):=zhd fun W' h=>R3.agree h hT3;have HV:Hid (∀W',Agree T W W'→ScnV T W' g s ch):=zhd fun W' h=>V.agree h;have hfew:=V.dat.few;have KR:Hid (∀u,u<s.tab.length→∀W',Agree T W W'→Calls Tryz.prog 57 #[.pointer (some ⟨g,0,none⟩),u,v,x] W' (Post W' fun _ r=>r=.int .i64 (repT s.tab u v x))):=zhd fun u hu W' h=>YM (HV.out W' h) hu hv (WF.small (by omega));have p1:=R1.zc 0 rfl;have p2:=R2.zc 0 rfl;have l1:=R1.lt;have l2:=R2.lt;have lg:=V.lt;obtain ⟨ca,cc,sa,sc,ta,tc,xa,xc,a2,c2,la,lc,mb,R,_,_,_,_,hL⟩:=V.mem;have p12:=R.zc 12 rfl;have lq:=zeQ hL (k:=v) (by rw[QV];exact hv);obtain ⟨vv,cv,iv⟩:=(show Lists T W (.slice la (hrdLL s.tab).length lc) (hrdLL s.tab) by rw[QV];exact hL).at (.refl _ _) (k:=v) (by rw[QV];exact hv);rw[zib hv]at iv;obtain ⟨va,vc,rfl,_⟩:=iv.form;have bv:=World.block_lt_of_cell? _ _ cv;have hln:(hrdL s.tab s.tab.length v).length=(hrN s.tab v).length:=by rw[zhg,List.length_map]
 have HQ:Hid (∀k,k<(hrN s.tab v).length→∀W:World,(Instr.indexAt 36 (.slice va (hrN s.tab v).length vc) (.int .i64 k)).run Tryz.prog W=.ok (.pointer (some (adr va k))) W):=zhd fun k hk W=>by
  have:=iv.idx (k:=k) (by rw[hln];exact hk) W;rw[hln]at this;exact this
 have HC:Hid (∀W',Agree T W W'→∀k (hk:k<(hrN s.tab v).length),W'.cell? (adr va k)=some (.int .i64 ((hrN s.tab v)[k]:Nat))):=zhd fun W' h k hk=>by
  have:=(iv.agree h).cellN (k:=k) (by rw[hln];exact hk);rw[this,zhg,yM (by rw[List.length_map];exact hk),List.getElem_map]
 rw[hln]at cv;have HNL:=zhd (zjl s.tab v);have HMEM:Hid (∀k (hk:k<(hrN s.tab v).length),(hrN s.tab v)[k]<s.tab.length∧hrsB s.tab (hrN s.tab v)[k] v=true):=zhd fun k hk=>Xd.1 (List.getElem_mem hk);have HTK:Hid (∀k (hk:k<(hrN s.tab v).length),(hrN s.tab v).take (k+1)=(hrN s.tab v).take k++[(hrN s.tab v)[k]]):=zhd fun k hk=>(List.take_append_getElem hk).symm;obtain ⟨H,hH⟩:=zn (hrN s.tab v);rw[←hH]at cv HQ HC HNL HMEM HTK ⊢;have hag:Agree T W W:=.refl _ _;have hNN:H.length≤120:=by have:=HNL.out;omega
 clear hJ hJx hY h0 R1 R2 R3 V hTw iv hL R hln hH;refine callsIn_of_wp Tryz.func123 rfl trivial ?_ rfl;simp only[Tryz.ntmps123,List.size_toArray,List.length_cons,List.length_nil,Nat.reduceAdd,Nat.reduceSub,Array.replicate_succ,Array.replicate_zero,List.push_toArray,List.append_toArray,List.nil_append,List.cons_append];gi_wp2;gi_quiet (fail);have H1:=zhd (zhO HJ.out H0.out ⟨nq,rfl⟩);have hag1:Agree T W (W.drewN nq):=zC T W nq;clear p1 p2 l1 l2 lg p12 lq cv bv hag H0;gi_wp2;gi_loopw [6,15] (fun _ i wr=>∃(k:Nat) (pre:List (Hrd s.tab v)),k≤H.length∧i=.int .i64 k∧Hid (J pre wr)∧Hid (pre.map (·.1)=H.take k)∧Agree T W wr) (fun _ i _=>H.length - (intOf i).toNat)
 case atStart=>exact ⟨0,[],Nat.zero_le _,rfl,H1,zhd rfl,hag1⟩
 case round=>
  clear hag1 H1;obtain ⟨k,pre,hk,rfl,HJs,HP,hA⟩:=hrel;by_cases hlt:k<H.length
  case neg=>
   obtain rfl:k=H.length:=by omega
   have HPE:Hid (pre.map (·.1)=H):=zhd (by rw[HP.out,List.take_length]);gi_wp2;go_end0;exact ⟨⟨_,rfl⟩,.inl ⟨pre,HPE.out,HJs.out⟩⟩
  have q1:=HQ.out k hlt;have c1:=HC.out wr hA k hlt;have hm:=HMEM.out k hlt;have HTKk:=zhd (HTK.out k hlt);obtain ⟨u,hu⟩:=zn (H[k]);rw[←hu]at c1 hm HTKk;have KR2:=zhd (KR.out u hm.1 wr hA);have b1:=World.block_lt_of_cell? _ _ c1;have p1:=(HR1.out wr hA).zc 0 rfl;have p2:=(HR2.out wr hA).zc 0 rfl;have p3:=(HR3.out wr hA).zc 0 rfl;have l1:=(HR1.out wr hA).lt;have l2:=(HR2.out wr hA).lt;have l3:=(HR3.out wr hA).lt;have HHM:=zhd hm;have HPN:Hid ((pre++[(⟨u,HHM.out⟩:Hrd s.tab v)]).map (·.1)=H.take (k+1)):=zhd (by rw[HTKk.out,List.map_append,HP.out];rfl);have HPX:Hid ((pre++[(⟨u,HHM.out⟩:Hrd s.tab v)]).map (·.1)<+:H):=zhd (by rw[HPN.out];exact List.take_prefix _ _);have hpl:pre.length<s.tab.length:=by
   have h2:=congrArg List.length HP.out;rw[List.length_map,List.length_take]at h2;have:=HNL.out;omega
  have HPL:=zhd hpl;obtain ⟨y,hy⟩:=zn (repT s.tab u v x);rw[←hy]at KR2;have HYE:=zhd hy;clear hu hm hy hpl;gi_wp2_with fail
  refine ⟨trivial,(callsIn_wide.2 KR2.out).mono ?_⟩;rintro _ w1 ⟨_,rfl,hb,rfl⟩;replace HJs:=zhd (zht HJ.out HJs.out hb);replace hA:Agree T W w1:=hA.trans (.of_ext hb);clear KR2 p1 p2 p3 l1 l2 l3 c1 b1 q1 hb;obtain ⟨fn,tmps,assign,body,hyy,hRnd⟩:=HY.out pre ⟨u,HHM.out⟩ _ HJs.out HPL.out;dsimp only at hyy;rw[←HYE.out]at hyy;gi_wp2;refine hRnd.mono ?_;rintro e W3 (⟨rfl,hJ3,hk3⟩ | ⟨rfl,hJx3⟩)
  ·have HJ3:=zhd hJ3;have hA3:=hA.trans hk3;clear hJ3 hyy hRnd;gi_wp2;go_roundw
   case rel=>exact ⟨k+1,_,by omega,by go_num,HJ3,HPN,hA3⟩
   case measure=>simp[intOf];omega
  ·have HJ3:=zhd hJx3;clear hJx3 hyy hRnd;gi_wp2;refine bodyPost_ret (results_none rfl _ _ _) rfl ?_;exact ⟨⟨_,rfl⟩,.inr ⟨_,HPX.out,HJ3.out⟩⟩
theorem XR {A S2:Nat→Prop} {w:World} {g v x:Nat} {vl:Value} {s:SysF} {ch L:List Int} (h:ScnV A w g s ch) (h2:Ints S2 w vl L) (hl:L.length=s.tab.length) (hv:v<s.tab.length) (hx:x<s.tab.length):
  Calls Tryz.prog 85 #[.pointer (some ⟨g,0,none⟩),vl,v,x] w (Post w fun _ r=>r=.bool (folB s.tab (nth L) v x)):=by
 obtain ⟨a2,c2,rfl,_⟩:=h2.form;have HVB:=h.block;have hfew:=h.dat.few;have HY:Hid ((∀u,u<s.tab.length→hrsB s.tab u v=true→0≤repT s.tab u v x∧nth L (repT s.tab u v x).toNat=nth L u)→folB s.tab (nth L) v x=true):=zhd yH.2;have HN:Hid (∀u,u<s.tab.length→hrsB s.tab u v=true→¬(0≤repT s.tab u v x∧nth L (repT s.tab u v x).toNat=nth L u)→folB s.tab (nth L) v x=false):=zhd fun u hu hh hk=>zjG hu hh hk;have HB:Hid (∀u, -1≤repT s.tab u v x∧repT s.tab u v x<s.tab.length):=zhd fun u=>ZR;have HMEM:Hid (∀u,u∈hrN s.tab v↔u<s.tab.length∧hrsB s.tab u v=true):=zhd fun u=>Xd;have HQ:Hid (∀k,k<s.tab.length→∀W:World,(Instr.indexAt 36 (.slice a2 L.length c2) (.int .i64 k)).run Tryz.prog W=.ok (.pointer (some (adr a2 k))) W):=zhd fun k hk W=>h2.idx (by omega) W;have HC:Hid (∀k,k<s.tab.length→w.cell? (adr a2 k)=some (.int .i64 (nth L k))):=zhd fun k hk=>h2.cellN (by omega);obtain ⟨r,hr⟩:=zn (folB s.tab (nth L) v x);rw[←hr]at HY HN ⊢;obtain ⟨n,hn⟩:=zn L.length;rw[←hn]at HQ ⊢;have ex:=zh (ze w (.cells #[.slice a2 n c2] 36)) (.cells #[.bool false] 4);have RC:=(zi w [.slice a2 n c2] 36).alloc (.cells #[.bool false] 4);have RR:=zi (w.alloc (.cells #[.slice a2 n c2] 36)) [.bool false] 4;rw[World.size_alloc]at RR;have HV0:=zhd (HVB.ext ex);obtain ⟨B0,hB0⟩:=zn w.heap.size;obtain ⟨B1,hB1⟩:=zn (w.heap.size+1);obtain ⟨w1,hw1⟩:=zn (((w.alloc (.cells #[.slice a2 n c2] 36)).alloc (.cells #[.bool false] 4)));have HBB:Hid (w.heap.size≤B0∧w.heap.size≤B1∧B0=w.heap.size):=zhd ⟨by omega,by omega,hB0⟩;rw[←hB1]at RR;rw[←hB0]at RC;rw[←hw1]at RC RR ex HV0;have HW1:=zhd hw1;have HB0:=zhd hB0;have HB1:=zhd hB1;have KT:=zhd (Qc w1 g v x);have HEX1:=zhd ex;have HNE:Hid (n=s.tab.length):=zhd (hn.trans hl);clear h h2 hl hr hn hw1 hB0 hB1 HVB ex;refine (callsIn_wide (n:=6)).1 ?_;refine callsIn_of_wp_marks Tryz.func85 rfl trivial ?_ rfl;simp only[Tryz.ntmps85,List.size_toArray,List.length_cons,List.length_nil,Nat.reduceAdd,Nat.reduceSub,Array.replicate_succ,Array.replicate_zero,List.push_toArray,List.append_toArray,List.nil_append,List.cons_append];gi_wp2_with fail
 rw[←HW1.out,←HB1.out,←HB0.out];refine ⟨trivial,(callsIn_wide.2 KT.out).mono ?_⟩;rintro _ _ ⟨rfl,rfl⟩;have e3:=zh (zh (ze w1 (.cells #[.pointer (some ⟨g,0,none⟩)] 103)) (.cells #[v] 3)) (.cells #[x] 3);have P1:=((zi w1 [.pointer (some ⟨g,0,none⟩)] 103).alloc (.cells #[v] 3)).alloc (.cells #[x] 3);have P2:=(zi (w1.alloc (.cells #[.pointer (some ⟨g,0,none⟩)] 103)) [v] 3).alloc (.cells #[x] 3);have P3:=zi ((w1.alloc (.cells #[.pointer (some ⟨g,0,none⟩)] 103)).alloc (.cells #[v] 3)) [x] 3;simp only[World.size_alloc]at P2 P3;obtain ⟨N1,hN1⟩:=zn w1.heap.size;obtain ⟨N2,hN2⟩:=zn (w1.heap.size+1);obtain ⟨N3,hN3⟩:=zn (w1.heap.size+1+1);obtain ⟨w3,hw3⟩:=zn (((w1.alloc (.cells #[.pointer (some ⟨g,0,none⟩)] 103)).alloc (.cells #[v] 3)).alloc (.cells #[x] 3));rw[←hN3]at P3;rw[←hN2]at P2;rw[←hN1]at P1;rw[←hw3]at P1 P2 P3 e3;rw[←hw3,←hN3,←hN2,←hN1];have hx3:=za HEX1.out e3;have RC3:=RC.ext e3;have RR3:=RR.ext e3;have HV3:=zhd (HV0.out.ext e3);have zw:=hx3.size;have zR:=RR3.lt;clear hw3 KT HV0 RC RR;have hTw:∀b,(b<w.heap.size∨b=N1∨b=N2∨b=N3)→b<w3.heap.size:=fun b hb=>by have:=P1.lt;have:=P2.lt;have:=P3.lt;omega
 have HST:=Qd (T:=fun b=>b<w.heap.size∨b=N1∨b=N2∨b=N3) (n:=5) (by decide) P1 P2 P3 (HV3.out.mono fun b hb=>.inl hb.2) hv hx (.inr (.inl rfl)) (.inr (.inr (.inl rfl))) (.inr (.inr (.inr rfl))) hTw;clear hN1 hN2 hN3 P1 P2 P3 e3;gi_wp2;apply wpIn_rangeFunc_ownF (n:=6) rfl (by decide) (gf:=123) (lb:=#[.pointer (some ⟨N1,0,none⟩),.pointer (some ⟨N2,0,none⟩),.pointer (some ⟨N3,0,none⟩)]) rfl trivial (enters_of Tryz.func123 (by kernel_rfl) rfl)
  HST xI (xH hTw) (Below.refl _ _) (fun _=>rfl)
  (fun (pre:List (Hrd s.tab v)) W=>(∀u∈pre,(0≤repT s.tab u.1 v x∧nth L (repT s.tab u.1 v x).toNat=nth L u.1))∧Below w3.heap.size w3 W)
  (fun c (pre:List (Hrd s.tab v)) W=>c=.ret∧r=false∧Row W B1 4 [.bool false]∧Below w.heap.size w W)
  (OwnFrom.and (ownFrom_pure _ _) (ownFrom_below (Nat.le_refl _) (Nat.le_refl _)))
  (fun c=>OwnFrom.and (ownFrom_pure _ _) (OwnFrom.and (ownFrom_pure _ _) (OwnFrom.and (yF (xs:=fun _=>[.bool false]) zR) (ownFrom_below (Nat.le_refl _) zw))))
  ⟨by simp,Below.refl _ _⟩
 case hassign=>
  intro l u W Kq hK;have hK:=zhd hK;gi_wp2;exact hK.out
 case hbody=>
  rintro l pre ⟨u,hu,hh⟩ W ⟨hgd,hB⟩ hlen;dsimp only;have zzPC:=RC3.ext hB;have PR:=RR3.ext hB;have hBw3:Below w.heap.size w W:=za hx3 hB;have c0:=zzPC.zc 0 rfl;have p0:=PR.zc 0 rfl;have f0:=PR.free 0;have lc:=zzPC.lt;have lr:=PR.lt;have hrg:=HB.out u;have HGD:=zhd hgd;have HNu:=zhd (HN.out u hu hh);have cu:=zm (HC.out u hu) hBw3;have qu:=HQ.out u hu;have bu:=World.block_lt_of_cell? _ _ cu;obtain ⟨y,hy⟩:=zn (repT s.tab u v x);have HYY:=zhd hy;rw[←hy]at hrg HNu ⊢;obtain ⟨lu,hlu⟩:∃l,l=nth L u:=⟨_,rfl⟩;rw[←hlu]at cu HNu;have HLU:=zhd hlu;have FIN:Hid (r=false→∀W',(W'=W.drew.setCell ⟨B1,0,none⟩ (.bool false)∨W'=(W.setCell ⟨B1,0,none⟩ (.bool false)).drew)→KeepsOthers W W'∧r=false∧Row W' B1 4 [.bool false]∧Below w.heap.size w W'):=zhd fun hr0 W' hW'=>by
   rcases hW' with hW' | hW'
   ·subst hW';exact ⟨(zY (zb W.heap.size W 1)).trans (.setCell _ _ _),hr0,(PR.ext (zb _ _ 1)).set 0 _,(za hBw3 (zb _ _ 1)).setCell (by have:=HBB.out.2.1;simpa using this) _⟩
   ·subst hW';exact ⟨(KeepsOthers.setCell W _ _).trans (zY (zb _ _ 1)),hr0,(PR.set 0 (.bool false)).ext (zb _ _ 1),(hBw3.setCell (p:=⟨B1,0,none⟩) (by have:=HBB.out.2.1;simpa using this) (.bool false)).trans (zb _ _ 1)⟩
  have KPN:Hid (∀nq,KeepsOthers W (W.drewN nq)∧Agree (fun b=>b<w.heap.size∨b=N1∨b=N2∨b=N3) W (W.drewN nq)∧Below w3.heap.size w3 (W.drewN nq)):=zhd fun nq=>⟨zY (zb W.heap.size W nq),zC _ _ _,za hB (zb _ _ nq)⟩;clear hgd hlu zzPC PR hlen hB hBw3;by_cases hy0:y<0
  ·have d0:decide (y<0)=true:=decide_eq_true hy0;have HF:=zhd (FIN.out (HNu.out fun h=>by omega));clear hrg hy FIN;gi_wp2;refine yQ (fun w':World=>w'.cell? ⟨B0,0,none⟩=some (.slice a2 n c2)) (fun i=>false) (by kernel_rfl) (by kernel_rfl) (by rintro ⟨_,_,h⟩;exact h) ?_ (fun hHeld=>?_)
   ·exact c0
   refine zu 0 hHeld ?_;refine zu 1 hHeld ?_;refine zu 2 hHeld ?_;refine zy 3 rfl (by kernel_rfl) (fun _ _ _ h=>h) (by rfl) hHeld ?_;try simp only[Act.put,zsa,zsz,zss]
   refine zy 4 rfl (by kernel_rfl) (fun _ _ _ h=>h) (by rfl) hHeld ?_;try simp only[Act.put,zsa,zsz,zss]
   refine zy 5 rfl (by kernel_rfl) (fun _ _ _ h=>h) (by rfl) hHeld ?_;try simp only[Act.put,zsa,zsz,zss]
   refine zy 6 rfl (by kernel_rfl) (fun _ _ _ h=>h) (by rfl) hHeld ?_;try simp only[Act.put,zsa,zsz,zss]
   refine zy 7 rfl (by kernel_rfl) (fun _ _ _ h=>h) (by rfl) hHeld ?_;try simp only[Act.put,zsa,zsz,zss]
   refine zy 8 rfl (by kernel_rfl) (fun _ _ _ h=>h) (by rfl) hHeld ?_;try simp only[Act.put,zsa,zsz,zss]
   refine zy 9 rfl (by kernel_rfl) (fun _ _ _ h=>h) (by rfl) hHeld ?_;try simp only[Act.put,zsa,zsz,zss]
   refine zy 10 rfl (by kernel_rfl) (fun _ _ _ h=>h) (by rfl) hHeld ?_;try simp only[Act.put,zsa,zsz,zss]
   refine zy 11 rfl (by kernel_rfl) (fun _ _ _ h=>h) (by rfl) hHeld ?_;try simp only[Act.put,zsa,zsz,zss]
   refine zu 12 hHeld ?_;refine zz (by kernel_rfl) ?_ _;clear hHeld;gi_wp2;exact ⟨(HF.out _ (by first | exact .inl rfl | exact .inr rfl)).1,rfl,(HF.out _ (by first | exact .inl rfl | exact .inr rfl)).2⟩
  obtain ⟨z,hz⟩:∃z:Nat,y=z:=⟨y.toNat,by omega⟩;have hzn:z<s.tab.length:=by omega
  have cz:=zm (HC.out z hzn) (show Below w.heap.size w W from za hx3 (by have:=(KPN.out 0).2.2;exact this));have qz:=HQ.out z hzn;have bz:=World.block_lt_of_cell? _ _ cz;have HNz:Hid (nth L z≠lu→r=false):=zhd fun hne=>HNu.out fun h=>hne (by have:=h.2;rw[hz,Int.toNat_natCast]at this;exact this);have HOKz:Hid (nth L z=lu→(0≤repT s.tab u v x∧nth L (repT s.tab u v x).toNat=nth L u)):=zhd fun he=>by rw[←HYY.out,hz,Int.toNat_natCast,←HLU.out];exact ⟨by omega,he⟩
  obtain ⟨lz,hlz⟩:∃l,l=nth L z:=⟨_,rfl⟩;rw[←hlz]at cz HNz HOKz;have d0:decide ((z:Int)<0)=false:=decide_eq_false (by omega);rw[hz];clear hy hz hlz hrg hy0 HYY HNu HLU;by_cases he:lz=lu
  ·have d1:(lz !=lu)=false:=by simp[he]
   have HOK:=zhd (HOKz.out he);clear he HNz HOKz FIN;gi_wp2;refine yQ (fun w':World=>w'.cell? ⟨B0,0,none⟩=some (.slice a2 n c2)∧w'.cell? (adr a2 u)=some (.int .i64 lu)∧w'.cell? (adr a2 z)=some (.int .i64 lz)) (fun i=>false) (by kernel_rfl) (by kernel_rfl) (by rintro ⟨_,_,h⟩;exact h) ?_ (fun hHeld=>?_)
   ·exact ⟨c0,cu,cz⟩
   refine zu 0 hHeld ?_;refine zu 1 hHeld ?_;refine zu 2 hHeld ?_;refine zu 3 hHeld ?_;refine zu 4 hHeld ?_;refine zu 5 hHeld ?_;refine zu 6 hHeld ?_;refine zu 7 hHeld ?_;refine zu 8 hHeld ?_;refine zu 9 hHeld ?_;refine zu 10 hHeld ?_;refine zu 11 hHeld ?_;refine zu 12 hHeld ?_;refine zz (by kernel_rfl) ?_ _;clear hHeld;gi_wp2;exact ⟨(KPN.out _).1,(KPN.out _).2.1,fun q hq=>by
    rcases List.mem_append.1 hq with hq | hq
    ·exact HGD.out q hq
    ·rw[List.mem_singleton.1 hq];exact HOK.out,(KPN.out _).2.2⟩
  ·have d1:(lz !=lu)=true:=by simp[he]
   have HF:=zhd (FIN.out (HNz.out he));clear he HNz HOKz FIN;gi_wp2;refine yQ (fun w':World=>w'.cell? ⟨B0,0,none⟩=some (.slice a2 n c2)∧w'.cell? (adr a2 u)=some (.int .i64 lu)∧w'.cell? (adr a2 z)=some (.int .i64 lz)) (fun i=>false) (by kernel_rfl) (by kernel_rfl) (by rintro ⟨_,_,h⟩;exact h) ?_ (fun hHeld=>?_)
   ·exact ⟨c0,cu,cz⟩
   refine zu 0 hHeld ?_;refine zu 1 hHeld ?_;refine zu 2 hHeld ?_;refine zu 3 hHeld ?_;refine zu 4 hHeld ?_;refine zu 5 hHeld ?_;refine zu 6 hHeld ?_;refine zu 7 hHeld ?_;refine zu 8 hHeld ?_;refine zu 9 hHeld ?_;refine zu 10 hHeld ?_;refine zu 11 hHeld ?_;refine zu 12 hHeld ?_;refine zz (by kernel_rfl) ?_ _;clear hHeld;gi_wp2;exact ⟨(HF.out _ (by first | exact .inl rfl | exact .inr rfl)).1,rfl,(HF.out _ (by first | exact .inl rfl | exact .inr rfl)).2⟩
 case hstop=>
  rintro D c pre W hD hSp ⟨rfl,hrf,PB,hBw3⟩ hK;gi_wp2;refine ⟨by simp,.inl ⟨_,_,rfl,run_takeDeferred hK,?_⟩⟩;have P9:=PB.putObj (.deferred none) hK rfl;have hB9:=hBw3.grown (grownBy_putObj' _ D (.deferred none)) hBw3.size (fun k hk=>by cases hk;omega);have q9:=P9.zc 0 rfl;exact ⟨.bool false,by simp[results,Tryz.results85,go_sem,q9],.mk hB9 (zE hrf.symm)⟩
 case hdone=>
  rintro D xs W hD hS ⟨hgd,hB⟩ hK;have hrt:r=true:=HY.out fun u hu hh=>by
   have hm:=(HMEM.out u).2 ⟨hu,hh⟩;rw[←hS]at hm;obtain ⟨q,hq,rfl⟩:=List.mem_map.1 hm;exact hgd q hq
  have HRT:=zhd hrt;have PN:=RR3.ext hB;have hBw3:Below w.heap.size w W:=za hx3 hB;have q0:=PN.zc 0 rfl;have f0:=PN.free 0;have l0:=PN.lt;clear hgd hS hrt;have KD:(W.setCell ⟨B1,0,none⟩ (.bool true)).heap[D]? =some (.deferred (some [])):=(KeepsOthers.setCell W _ _).same D _ hK rfl;have P9:=(PN.set 0 (.bool true)).putObj (.deferred none) KD rfl;have hB8:Below w.heap.size w (W.setCell ⟨B1,0,none⟩ (.bool true)):=hBw3.setCell (by have:=HBB.out.2.1;simpa using this) _;have hB9:=hB8.grown (grownBy_putObj' _ D (.deferred none)) hB8.size (fun k hk=>by cases hk;omega);have q9:=P9.zc 0 rfl;gi_wp2;refine ⟨by simp,.inl ⟨_,_,rfl,run_takeDeferred KD,?_⟩⟩;exact ⟨.bool true,by simp[results,Tryz.results85,go_sem,q9],.mk hB9 (zE HRT.out.symm)⟩
end Go.Proofs.YtiabbjolepnjkaaGreat
namespace Go.Proofs.YtiabbjolepnjkaaGreat
open Go.RowKit
attribute [local go_sem ↓] Go.wp_at_zero Go.wp_at_succ
theorem Qv {A S2:Nat→Prop} {w:World} {g v x:Nat} {vl:Value} {s:SysF} {ch L:List Int} (h:ScnV A w g s ch) (h2:Ints S2 w vl L) (hl:L.length=s.tab.length) (hv:v<s.tab.length) (hx:x<s.tab.length):
  Calls Tryz.prog 49 #[.pointer (some ⟨g,0,none⟩),vl,v,x] w (Post w fun _ r=>r=.bool (samB s.tab ch (nth L) v x)):=by
 have KA:Hid (∀W,Below w.heap.size w W→Calls Tryz.prog 84 #[.pointer (some ⟨g,0,none⟩),v,x] W (Post W fun _ r=>r=.bool (likB s.tab v x))):=zhd fun W hW=>Y2 (h.ext hW) hv hx;have KF1:Hid (∀W,Below w.heap.size w W→Calls Tryz.prog 85 #[.pointer (some ⟨g,0,none⟩),vl,v,x] W (Post W fun _ r=>r=.bool (folB s.tab (nth L) v x))):=zhd fun W hW=>XR (h.ext hW) (h2.ext hW) hl hv hx;have KF2:Hid (∀W,Below w.heap.size w W→Calls Tryz.prog 85 #[.pointer (some ⟨g,0,none⟩),vl,x,v] W (Post W fun _ r=>r=.bool (folB s.tab (nth L) x v))):=zhd fun W hW=>XR (h.ext hW) (h2.ext hW) hl hx hv;have HR:Hid (samB s.tab ch (nth L) v x=(likB s.tab v x&&(decide (nth ch v=nth ch x)&&(folB s.tab (nth L) v x&&folB s.tab (nth L) x v)))):=zhd rfl;obtain ⟨r,hr⟩:=zn (samB s.tab ch (nth L) v x);rw[←hr]at HR ⊢;obtain ⟨al,ha⟩:∃b,b=likB s.tab v x:=⟨_,rfl⟩;obtain ⟨f1,hf1⟩:∃b,b=folB s.tab (nth L) v x:=⟨_,rfl⟩;obtain ⟨f2,hf2⟩:∃b,b=folB s.tab (nth L) x v:=⟨_,rfl⟩;rw[←ha]at KA HR;rw[←hf1]at KF1 HR;rw[←hf2]at KF2 HR;obtain ⟨al',cl',rfl,_⟩:=h2.form;obtain ⟨ca,cc,sa,sc,ta,tc,xa,xc,a2,c2,la,lc,mb,R,_,_,_,hrr,_⟩:=h.mem;have hlen:=h.dat.len;have vq:=hrr.idx (k:=v) (by omega);have xq:=hrr.idx (k:=x) (by omega);have vc:=hrr.cellN (k:=v) (by omega);have xc':=hrr.cellN (k:=x) (by omega);obtain ⟨cv,hcv⟩:∃c,c=nth ch v:=⟨_,rfl⟩;obtain ⟨cx,hcx⟩:∃c,c=nth ch x:=⟨_,rfl⟩;rw[←hcv,←hcx]at HR;rw[←hcv]at vc;rw[←hcx]at xc';have KEEP:Hid (∀w',Below w.heap.size w w'→(fun w':World=>w'.cell? ⟨g,10,none⟩=some (.slice a2 ch.length c2)∧w'.cell? (adr a2 v)=some (.int .i64 cv)∧w'.cell? (adr a2 x)=some (.int .i64 cx)) w'):=zhd fun w' hw=>⟨(R.ext hw).zc 10 rfl,zm vc hw,zm xc' hw⟩;clear h h2 hl hv hx hr ha hf1 hf2 hcv hcx hrr R hlen vc xc';go_enter Tryz.func49,Tryz.ntmps49;go_upto_region 1 with fail;cases al with
 | false=>
  have RE:Hid (r=false):=zhd (HR.out.trans rfl);clear HR;refine zF (fun w':World=>w'.cell? ⟨g,10,none⟩=some (.slice a2 ch.length c2)∧w'.cell? (adr a2 v)=some (.int .i64 cv)∧w'.cell? (adr a2 x)=some (.int .i64 cx)) (fun i=>false) (by kernel_rfl) ?_ (fun hHeld=>?_)
  ·exact KEEP.out _ (zb w.heap.size w 1)
  refine zt 0 hHeld ?_;refine zt 1 hHeld ?_;refine zt 2 hHeld ?_;refine zo 3 (fun K hK=>?_)
  (go_simp;go_at_call 84;refine (KA.out _ (zb w.heap.size w 1)).mono ?_;rintro _ v1 ⟨_,rfl,hb,rfl⟩;have y1:=za (zb w.heap.size w 1) hb;clear hb)
  refine zk hK (KEEP.out _ y1) (fun hHeld=>?_);clear hK K;refine zt 4 hHeld ?_;refine zy 5 rfl (by kernel_rfl) (fun _ _ _ h=>h) (by rfl) hHeld ?_;try simp only[Act.put,zsa,zsz,zss]
  refine zy 6 rfl (by kernel_rfl) (fun _ _ _ h=>h) (by rfl) hHeld ?_;try simp only[Act.put,zsa,zsz,zss]
  refine zy 7 rfl (by kernel_rfl) (fun _ _ _ h=>h) (by rfl) hHeld ?_;try simp only[Act.put,zsa,zsz,zss]
  refine zy 8 rfl (by kernel_rfl) (fun _ _ _ h=>h) (by rfl) hHeld ?_;try simp only[Act.put,zsa,zsz,zss]
  refine zy 9 rfl (by kernel_rfl) (fun _ _ _ h=>h) (by rfl) hHeld ?_;try simp only[Act.put,zsa,zsz,zss]
  refine zy 10 rfl (by kernel_rfl) (fun _ _ _ h=>h) (by rfl) hHeld ?_;try simp only[Act.put,zsa,zsz,zss]
  refine zy 11 rfl (by kernel_rfl) (fun _ _ _ h=>h) (by rfl) hHeld ?_;try simp only[Act.put,zsa,zsz,zss]
  refine zy 12 rfl (by kernel_rfl) (fun _ _ _ h=>h) (by rfl) hHeld ?_;try simp only[Act.put,zsa,zsz,zss]
  refine zy 13 rfl (by kernel_rfl) (fun _ _ _ h=>h) (by rfl) hHeld ?_;try simp only[Act.put,zsa,zsz,zss]
  refine zy 14 rfl (by kernel_rfl) (fun _ _ _ h=>h) (by rfl) hHeld ?_;try simp only[Act.put,zsa,zsz,zss]
  refine zy 15 rfl (by kernel_rfl) (fun _ _ _ h=>h) (by rfl) hHeld ?_;try simp only[Act.put,zsa,zsz,zss]
  refine zy 16 rfl (by kernel_rfl) (fun _ _ _ h=>h) (by rfl) hHeld ?_;try simp only[Act.put,zsa,zsz,zss]
  refine zy 17 rfl (by kernel_rfl) (fun _ _ _ h=>h) (by rfl) hHeld ?_;try simp only[Act.put,zsa,zsz,zss]
  refine zy 18 rfl (by kernel_rfl) (fun _ _ _ h=>h) (by rfl) hHeld ?_;try simp only[Act.put,zsa,zsz,zss]
  refine zy 19 rfl (by kernel_rfl) (fun _ _ _ h=>h) (by rfl) hHeld ?_;try simp only[Act.put,zsa,zsz,zss]
  refine zy 20 rfl (by kernel_rfl) (fun _ _ _ h=>h) (by rfl) hHeld ?_;try simp only[Act.put,zsa,zsz,zss]
  refine zy 21 rfl (by kernel_rfl) (fun _ _ _ h=>h) (by rfl) hHeld ?_;try simp only[Act.put,zsa,zsz,zss]
  refine zt 22 hHeld ?_;refine zt 23 hHeld ?_;refine zy 24 rfl (by kernel_rfl) (fun _ _ _ h=>h) (by rfl) hHeld ?_;try simp only[Act.put,zsa,zsz,zss]
  refine zy 25 rfl (by kernel_rfl) (fun _ _ _ h=>h) (by rfl) hHeld ?_;try simp only[Act.put,zsa,zsz,zss]
  refine zy 26 rfl (by kernel_rfl) (fun _ _ _ h=>h) (by rfl) hHeld ?_;try simp only[Act.put,zsa,zsz,zss]
  refine zy 27 rfl (by kernel_rfl) (fun _ _ _ h=>h) (by rfl) hHeld ?_;try simp only[Act.put,zsa,zsz,zss]
  refine zy 28 rfl (by kernel_rfl) (fun _ _ _ h=>h) (by rfl) hHeld ?_;try simp only[Act.put,zsa,zsz,zss]
  refine zt 29 hHeld ?_;refine zt 30 hHeld ?_;refine zy 31 rfl (by kernel_rfl) (fun _ _ _ h=>h) (by rfl) hHeld ?_;try simp only[Act.put,zsa,zsz,zss]
  refine zy 32 rfl (by kernel_rfl) (fun _ _ _ h=>h) (by rfl) hHeld ?_;try simp only[Act.put,zsa,zsz,zss]
  refine zy 33 rfl (by kernel_rfl) (fun _ _ _ h=>h) (by rfl) hHeld ?_;try simp only[Act.put,zsa,zsz,zss]
  refine zy 34 rfl (by kernel_rfl) (fun _ _ _ h=>h) (by rfl) hHeld ?_;try simp only[Act.put,zsa,zsz,zss]
  refine zy 35 rfl (by kernel_rfl) (fun _ _ _ h=>h) (by rfl) hHeld ?_;try simp only[Act.put,zsa,zsz,zss]
  refine zt 36 hHeld ?_;refine zt 37 hHeld ?_;refine zz (by kernel_rfl) ?_ _;clear hHeld KEEP;go_wp2;go_ret;exact .mk y1 (zE RE.out.symm)
 | true=>
 by_cases hc:cv=cx
 case neg=>
  have d1:(cv==cx)=false:=by simp[hc]
  have RE:Hid (r=false):=zhd (HR.out.trans (by rw[decide_eq_false hc,Bool.false_and,Bool.and_false]));clear HR hc;refine zF (fun w':World=>w'.cell? ⟨g,10,none⟩=some (.slice a2 ch.length c2)∧w'.cell? (adr a2 v)=some (.int .i64 cv)∧w'.cell? (adr a2 x)=some (.int .i64 cx)) (fun i=>false) (by kernel_rfl) ?_ (fun hHeld=>?_)
  ·exact KEEP.out _ (zb w.heap.size w 1)
  refine zt 0 hHeld ?_;refine zt 1 hHeld ?_;refine zt 2 hHeld ?_;refine zo 3 (fun K hK=>?_)
  (go_simp;go_at_call 84;refine (KA.out _ (zb w.heap.size w 1)).mono ?_;rintro _ v1 ⟨_,rfl,hb,rfl⟩;have y1:=za (zb w.heap.size w 1) hb;clear hb)
  refine zk hK (KEEP.out _ y1) (fun hHeld=>?_);clear hK K;refine zt 4 hHeld ?_;refine zt 5 hHeld ?_;refine zt 6 hHeld ?_;refine zt 7 hHeld ?_;refine zt 8 hHeld ?_;refine zt 9 hHeld ?_;refine zt 10 hHeld ?_;refine zt 11 hHeld ?_;refine zt 12 hHeld ?_;refine zt 13 hHeld ?_;refine zt 14 hHeld ?_;refine zt 15 hHeld ?_;refine zt 16 hHeld ?_;refine zt 17 hHeld ?_;refine zt 18 hHeld ?_;refine zt 19 hHeld ?_;refine zt 20 hHeld ?_;refine zt 21 hHeld ?_;refine zt 22 hHeld ?_;refine zt 23 hHeld ?_;refine zy 24 rfl (by kernel_rfl) (fun _ _ _ h=>h) (by rfl) hHeld ?_;try simp only[Act.put,zsa,zsz,zss]
  refine zy 25 rfl (by kernel_rfl) (fun _ _ _ h=>h) (by rfl) hHeld ?_;try simp only[Act.put,zsa,zsz,zss]
  refine zy 26 rfl (by kernel_rfl) (fun _ _ _ h=>h) (by rfl) hHeld ?_;try simp only[Act.put,zsa,zsz,zss]
  refine zy 27 rfl (by kernel_rfl) (fun _ _ _ h=>h) (by rfl) hHeld ?_;try simp only[Act.put,zsa,zsz,zss]
  refine zy 28 rfl (by kernel_rfl) (fun _ _ _ h=>h) (by rfl) hHeld ?_;try simp only[Act.put,zsa,zsz,zss]
  refine zt 29 hHeld ?_;refine zt 30 hHeld ?_;refine zy 31 rfl (by kernel_rfl) (fun _ _ _ h=>h) (by rfl) hHeld ?_;try simp only[Act.put,zsa,zsz,zss]
  refine zy 32 rfl (by kernel_rfl) (fun _ _ _ h=>h) (by rfl) hHeld ?_;try simp only[Act.put,zsa,zsz,zss]
  refine zy 33 rfl (by kernel_rfl) (fun _ _ _ h=>h) (by rfl) hHeld ?_;try simp only[Act.put,zsa,zsz,zss]
  refine zy 34 rfl (by kernel_rfl) (fun _ _ _ h=>h) (by rfl) hHeld ?_;try simp only[Act.put,zsa,zsz,zss]
  refine zy 35 rfl (by kernel_rfl) (fun _ _ _ h=>h) (by rfl) hHeld ?_;try simp only[Act.put,zsa,zsz,zss]
  refine zt 36 hHeld ?_;refine zt 37 hHeld ?_;refine zz (by kernel_rfl) ?_ _;clear hHeld KEEP;go_wp2;go_ret;exact .mk y1 (zE RE.out.symm)
 have d1:(cv==cx)=true:=by simp[hc]
 have HR2:Hid (r=(f1&&f2)):=zhd (HR.out.trans (by rw[decide_eq_true hc,Bool.true_and,Bool.true_and]));clear HR hc;cases f1 with
 | false=>
  have RE:Hid (r=false):=zhd (HR2.out.trans rfl);clear HR2;refine zF (fun w':World=>w'.cell? ⟨g,10,none⟩=some (.slice a2 ch.length c2)∧w'.cell? (adr a2 v)=some (.int .i64 cv)∧w'.cell? (adr a2 x)=some (.int .i64 cx)) (fun i=>false) (by kernel_rfl) ?_ (fun hHeld=>?_)
  ·exact KEEP.out _ (zb w.heap.size w 1)
  refine zt 0 hHeld ?_;refine zt 1 hHeld ?_;refine zt 2 hHeld ?_;refine zo 3 (fun K hK=>?_)
  (go_simp;go_at_call 84;refine (KA.out _ (zb w.heap.size w 1)).mono ?_;rintro _ v1 ⟨_,rfl,hb,rfl⟩;have y1:=za (zb w.heap.size w 1) hb;clear hb)
  refine zk hK (KEEP.out _ y1) (fun hHeld=>?_);clear hK K;refine zt 4 hHeld ?_;refine zt 5 hHeld ?_;refine zt 6 hHeld ?_;refine zt 7 hHeld ?_;refine zt 8 hHeld ?_;refine zt 9 hHeld ?_;refine zt 10 hHeld ?_;refine zt 11 hHeld ?_;refine zt 12 hHeld ?_;refine zt 13 hHeld ?_;refine zt 14 hHeld ?_;refine zt 15 hHeld ?_;refine zt 16 hHeld ?_;refine zt 17 hHeld ?_;refine zt 18 hHeld ?_;refine zt 19 hHeld ?_;refine zt 20 hHeld ?_;refine zt 21 hHeld ?_;refine zt 22 hHeld ?_;refine zt 23 hHeld ?_;refine zt 24 hHeld ?_;refine zt 25 hHeld ?_;refine zt 26 hHeld ?_;refine zt 27 hHeld ?_;refine zo 28 (fun K hK=>?_)
  (go_simp;go_at_call 85;refine (KF1.out _ y1).mono ?_;rintro _ v2 ⟨_,rfl,hb,rfl⟩;have y2:=za y1 hb;clear hb)
  refine zk hK (KEEP.out _ y2) (fun hHeld=>?_);clear hK K;refine zt 29 hHeld ?_;refine zt 30 hHeld ?_;refine zy 31 rfl (by kernel_rfl) (fun _ _ _ h=>h) (by rfl) hHeld ?_;try simp only[Act.put,zsa,zsz,zss]
  refine zy 32 rfl (by kernel_rfl) (fun _ _ _ h=>h) (by rfl) hHeld ?_;try simp only[Act.put,zsa,zsz,zss]
  refine zy 33 rfl (by kernel_rfl) (fun _ _ _ h=>h) (by rfl) hHeld ?_;try simp only[Act.put,zsa,zsz,zss]
  refine zy 34 rfl (by kernel_rfl) (fun _ _ _ h=>h) (by rfl) hHeld ?_;try simp only[Act.put,zsa,zsz,zss]
  refine zy 35 rfl (by kernel_rfl) (fun _ _ _ h=>h) (by rfl) hHeld ?_;try simp only[Act.put,zsa,zsz,zss]
  refine zt 36 hHeld ?_;refine zt 37 hHeld ?_;refine zz (by kernel_rfl) ?_ _;clear hHeld KEEP;go_wp2;go_ret;exact .mk y2 (zE RE.out.symm)
 | true=>
 have RE:Hid (r=f2):=zhd (HR2.out.trans (Bool.true_and _));clear HR2;cases f2 with
 | false=>
  refine zF (fun w':World=>w'.cell? ⟨g,10,none⟩=some (.slice a2 ch.length c2)∧w'.cell? (adr a2 v)=some (.int .i64 cv)∧w'.cell? (adr a2 x)=some (.int .i64 cx)) (fun i=>false) (by kernel_rfl) ?_ (fun hHeld=>?_)
  ·exact KEEP.out _ (zb w.heap.size w 1)
  refine zt 0 hHeld ?_;refine zt 1 hHeld ?_;refine zt 2 hHeld ?_;refine zo 3 (fun K hK=>?_)
  (go_simp;go_at_call 84;refine (KA.out _ (zb w.heap.size w 1)).mono ?_;rintro _ v1 ⟨_,rfl,hb,rfl⟩;have y1:=za (zb w.heap.size w 1) hb;clear hb)
  refine zk hK (KEEP.out _ y1) (fun hHeld=>?_);clear hK K;refine zt 4 hHeld ?_;refine zt 5 hHeld ?_;refine zt 6 hHeld ?_;refine zt 7 hHeld ?_;refine zt 8 hHeld ?_;refine zt 9 hHeld ?_;refine zt 10 hHeld ?_;refine zt 11 hHeld ?_;refine zt 12 hHeld ?_;refine zt 13 hHeld ?_;refine zt 14 hHeld ?_;refine zt 15 hHeld ?_;refine zt 16 hHeld ?_;refine zt 17 hHeld ?_;refine zt 18 hHeld ?_;refine zt 19 hHeld ?_;refine zt 20 hHeld ?_;refine zt 21 hHeld ?_;refine zt 22 hHeld ?_;refine zt 23 hHeld ?_;refine zt 24 hHeld ?_;refine zt 25 hHeld ?_;refine zt 26 hHeld ?_;refine zt 27 hHeld ?_;refine zo 28 (fun K hK=>?_)
  (go_simp;go_at_call 85;refine (KF1.out _ y1).mono ?_;rintro _ v2 ⟨_,rfl,hb,rfl⟩;have y2:=za y1 hb;clear hb)
  refine zk hK (KEEP.out _ y2) (fun hHeld=>?_);clear hK K;refine zt 29 hHeld ?_;refine zt 30 hHeld ?_;refine zt 31 hHeld ?_;refine zt 32 hHeld ?_;refine zt 33 hHeld ?_;refine zt 34 hHeld ?_;refine zo 35 (fun K hK=>?_)
  (go_simp;go_at_call 85;refine (KF2.out _ y2).mono ?_;rintro _ v3 ⟨_,rfl,hb,rfl⟩;have y3:=za y2 hb;clear hb)
  refine zk hK (KEEP.out _ y3) (fun hHeld=>?_);clear hK K;refine zt 36 hHeld ?_;refine zt 37 hHeld ?_;refine zz (by kernel_rfl) ?_ _;clear hHeld KEEP;go_wp2;go_ret;exact .mk y3 (zE RE.out.symm)
 | true=>
  refine zF (fun w':World=>w'.cell? ⟨g,10,none⟩=some (.slice a2 ch.length c2)∧w'.cell? (adr a2 v)=some (.int .i64 cv)∧w'.cell? (adr a2 x)=some (.int .i64 cx)) (fun i=>false) (by kernel_rfl) ?_ (fun hHeld=>?_)
  ·exact KEEP.out _ (zb w.heap.size w 1)
  refine zt 0 hHeld ?_;refine zt 1 hHeld ?_;refine zt 2 hHeld ?_;refine zo 3 (fun K hK=>?_)
  (go_simp;go_at_call 84;refine (KA.out _ (zb w.heap.size w 1)).mono ?_;rintro _ v1 ⟨_,rfl,hb,rfl⟩;have y1:=za (zb w.heap.size w 1) hb;clear hb)
  refine zk hK (KEEP.out _ y1) (fun hHeld=>?_);clear hK K;refine zt 4 hHeld ?_;refine zt 5 hHeld ?_;refine zt 6 hHeld ?_;refine zt 7 hHeld ?_;refine zt 8 hHeld ?_;refine zt 9 hHeld ?_;refine zt 10 hHeld ?_;refine zt 11 hHeld ?_;refine zt 12 hHeld ?_;refine zt 13 hHeld ?_;refine zt 14 hHeld ?_;refine zt 15 hHeld ?_;refine zt 16 hHeld ?_;refine zt 17 hHeld ?_;refine zt 18 hHeld ?_;refine zt 19 hHeld ?_;refine zt 20 hHeld ?_;refine zt 21 hHeld ?_;refine zt 22 hHeld ?_;refine zt 23 hHeld ?_;refine zt 24 hHeld ?_;refine zt 25 hHeld ?_;refine zt 26 hHeld ?_;refine zt 27 hHeld ?_;refine zo 28 (fun K hK=>?_)
  (go_simp;go_at_call 85;refine (KF1.out _ y1).mono ?_;rintro _ v2 ⟨_,rfl,hb,rfl⟩;have y2:=za y1 hb;clear hb)
  refine zk hK (KEEP.out _ y2) (fun hHeld=>?_);clear hK K;refine zt 29 hHeld ?_;refine zt 30 hHeld ?_;refine zt 31 hHeld ?_;refine zt 32 hHeld ?_;refine zt 33 hHeld ?_;refine zt 34 hHeld ?_;refine zo 35 (fun K hK=>?_)
  (go_simp;go_at_call 85;refine (KF2.out _ y2).mono ?_;rintro _ v3 ⟨_,rfl,hb,rfl⟩;have y3:=za y2 hb;clear hb)
  refine zk hK (KEEP.out _ y3) (fun hHeld=>?_);clear hK K;refine zt 36 hHeld ?_;refine zt 37 hHeld ?_;refine zz (by kernel_rfl) ?_ _;clear hHeld KEEP;go_wp2;go_ret;exact .mk y3 (zE RE.out.symm)
theorem foldCast (l:List Nat) (y:Nat):((l++[y]).map fun z:Nat=>(z:Int)).map (Value.int .i64)=(l.map fun z:Nat=>(z:Int)).map (Value.int .i64)++[.int .i64 y]:=by simp
theorem ZB {A:Nat→Prop} {w:World} {g:Nat} {s:SysF} {ch:List Int} (h:ScnV A w g s ch):
  Calls Tryz.prog 53 #[.pointer (some ⟨g,0,none⟩)] w (Post w fun w' r=>Ints (fun b=>w.heap.size≤b) w' r (keys (quoE s.tab ch s.K) s.tab.length)):=by
 have KS:Hid (∀S3 vl L u x,L.length=s.tab.length→u<s.tab.length→x<s.tab.length→∀W,Below w.heap.size w W→Ints S3 W vl L→Calls Tryz.prog 49 #[.pointer (some ⟨g,0,none⟩),vl,u,x] W (Post W fun _ r=>r=.bool (samB s.tab ch (nth L) u x))):=zhd fun S3 vl L u x hL hu hx W hW hi=>Qv (h.ext hW) hi hL hu hx;obtain ⟨ca,cc,sa,sc,ta,tc,xa,xc,a2,c2,la,lc,mb,R,_,_,ht,_,_⟩:=h.mem;obtain ⟨hg,hlen,hfew⟩:=h.dat
 obtain ⟨_,_,hee,tad,_⟩:=ht.form2;cases hee;obtain ⟨i0,hi,hz⟩:=zK zO;have HQ:=zhd (zM Tryz.underlying30 hi hz tad);have HTC:Hid (∀u,u<s.tab.length→∃y:List Int,y.length=8∧nth y 1=(rndT s.tab u:Int)∧w.cell? (adr ta (u * 8))=some (.int .i64 (nth y 0))∧∀i,i<8→w.cell? ⟨(adr ta (u * 8)).block,(adr ta (u * 8)).off+i,none⟩=some (.int .i64 (nth y i))):=zhd fun u hu=>by
  have:=ht.nums (k:=u) hu (by decide);exact ⟨nthL s.tab u,Zr hg.tab hu,(yA hg.tab hu).1,this.1,this.2⟩
 have HTB:=zhd hg.tab;have HND:=zhd hg.nodup;have HRN:Hid (∀u,u<s.tab.length→rndT s.tab u≤s.K):=zhd fun u hu=>(yA HTB.out hu).2;have hK6:=hg.K6;have hrd:=hg.rnd;have HFIN:Hid (∀L,LabI s.tab ch s.K (s.K+1) 0 L→L=keys (quoE s.tab ch s.K) s.tab.length∧(∀x∈L,WF x)∧L.length=s.tab.length):=zhd fun L hL=>by
  have e:=hL.done;refine ⟨e,?_,hL.len⟩;rw[e];exact ziN ch s.K (by omega) HND.out HTB.out
 have HR6:Hid (∀W,Below w.heap.size w W→W.cell? ⟨g,6,none⟩=some (.int .i64 (s.K:Int))∧W.cell? ⟨g,8,none⟩=some (.slice ta s.tab.length tc)∧g<W.heap.size):=zhd fun W hW=>⟨by have:=(R.ext hW).zc 6 rfl;rw[hrd]at this;exact this,(R.ext hW).zc 8 rfl,(R.ext hW).lt⟩;obtain ⟨qL,hqL⟩:∃l,l=keys (quoE s.tab ch s.K) s.tab.length:=⟨_,rfl⟩;rw[←hqL]at HFIN ⊢;obtain ⟨T,hT⟩:=zn s.tab;obtain ⟨K,hK⟩:=zn s.K;rw[←hT]at KS HQ HTC HTB HND HRN HFIN hfew HR6;rw[←hK]at HRN hK6 HFIN HTB HR6;have hmk:=run_make_row' 36 3 (.int .i64 0) 8 Tryz.underlying36 info3 rfl .i64 .i64 T.length (by omega) (by omega);have ex:=ze w (.cells (madeCells #[.int .i64 0] T.length) 3);have RL:=Row.made w (.int .i64 0) T.length 3;rw[show List.replicate T.length (Value.int .i64 0)=(List.replicate T.length (0:Int)).map (Value.int .i64) by simp]at RL;have HZ0:=zhd (LabI.zero T ch K);obtain ⟨_,g8,lg⟩:=HR6.out w (.refl _ _);obtain ⟨g6',g8',lg'⟩:=HR6.out _ ex;clear h ht R tad hi hz hg hlen hqL hT hK hrd;obtain ⟨B2,hB2⟩:=zn w.heap.size;rw[←hB2]at RL;have HB2:=zhd hB2;have HBW:Hid (w.heap.size≤B2):=zhd (by omega);clear hB2;go_enter Tryz.func53,Tryz.ntmps53;go_wp2;rw[←HB2.out];clear hmk g8 lg g6' g8' lg';have HDK:(K+1=0∧Value.int .i64 (K:Int)=.int .i64 (-1))∨∃k,K+1=k+1∧Value.int .i64 (K:Int)=.int .i64 (k:Int):=.inr ⟨K,rfl,rfl⟩;go_loopw [4,5,6,7,8,10] (fun kv _ _ _ _ _ wr=>∃(j:Nat) (L:List Int),j≤K+1∧((j=0∧kv=.int .i64 (-1))∨∃k:Nat,j=k+1∧kv=.int .i64 k)∧Hid (LabI T ch K (K+1 - j) 0 L)∧Below w.heap.size w wr∧Row wr B2 3 ((L).map (Value.int .i64))) (fun kv _ _ _ _ _ _=>(intOf kv+1).toNat)
 case atStart=>exact ⟨K+1,_,Nat.le_refl _,HDK,zhd (by rw[Nat.sub_self];exact HZ0.out),ex,RL⟩
 case round=>
  clear ex RL HZ0 HDK;obtain ⟨j,L,hj,hjk,HL,ex,RL⟩:=hrel;rcases hjk with ⟨rfl,rfl⟩ | ⟨k,rfl,rfl⟩
  ·have HFI:=zhd (HFIN.out L HL.out);have HI:Hid (Ints (fun b=>w.heap.size≤b) wr (.slice (some ⟨B2,0,none⟩) T.length T.length) qL):=zhd (by
    have:=RL.ints (by rw[HFI.out.2.2];unfold maxLen;omega) HFI.out.2.1;rw[HFI.out.2.2,HFI.out.1]at this;exact this.mono fun b hb=>by have:=HBW.out;omega)
   have HEX:=zhd ex;clear ex RL HL hj;go_wp2;go_ret;exact .mk HEX.out HI.out
  obtain ⟨m,hm'⟩:∃m,m=K - k:=⟨_,rfl⟩;have hmk:k+m=K:=by omega
  rw[show K+1 - (k+1)=m by omega]at HL;have HM1:Hid (K+1 - k=m+1):=zhd (by omega);have HDN:=zhd (zj7 k);obtain ⟨_,g8,lg⟩:=HR6.out wr ex;clear hm';go_wp2;clear g8 lg;go_loopw [5,6,7,8,10,36] (fun fv _ _ _ _ iv wr=>∃(v:Nat) (L:List Int) (fa:Option Addr) (fn fc:Nat),v≤T.length∧iv=.int .i64 v∧fv=.slice fa fn fc∧Hid (LabI T ch K m v L)∧Below w.heap.size w wr∧Row wr B2 3 ((L).map (Value.int .i64))∧Hid (wr.ownsRow (B2+1) 3 1 (.slice fa fn fc) fn (((firL T ch K m v).map fun z:Nat=>(z:Int)).map (Value.int .i64)))∧Hid (fn=(firL T ch K m v).length)) (fun _ _ _ _ _ iv _=>T.length - (intOf iv).toNat)
  case atStart=>exact ⟨0,L,none,0,0,Nat.zero_le _,rfl,rfl,HL,ex,RL,zhd (World.ownsRow_nil _ _ _ _),zhd rfl⟩
  case round=>
   clear ex RL HL L;obtain ⟨v,L,fa,fn,fc,hv,rfl,rfl,HL,ex,RL,HF,HFL⟩:=hrel;by_cases hlt:v<T.length
   case neg=>
    obtain rfl:v=T.length:=by omega
    have HL2:=zhd HL.out.start;go_wp2;go_roundw
    case rel=>exact ⟨k,L,by omega,HDN.out,by rw[HM1.out];exact HL2,ex,RL⟩
    case measure=>simp[intOf]
   have vq:=HQ.out v hlt;obtain ⟨y,hy8,hy1,hy0,hyr⟩:=HTC.out v hlt;have u0:=zm hy0 ex;have u1:=zm (hyr 1 (by decide)) ex;have u2:=zm (hyr 2 (by decide)) ex;have u3:=zm (hyr 3 (by decide)) ex;have u4:=zm (hyr 4 (by decide)) ex;have u5:=zm (hyr 5 (by decide)) ex;have u6:=zm (hyr 6 (by decide)) ex;have u7:=zm (hyr 7 (by decide)) ex;have bv:=World.block_lt_of_cell? _ _ u0;have HY1:=zhd hy1;have HRV:=zhd (HRN.out v hlt);have HSK:=zhd (fun h=>HL.out.skip (j:=v) h);have HFS:=zhd (fun h=>zil (T:=T) (ch:=ch) (K:=K) (m:=m) (j:=v) h);obtain ⟨rv,hrv⟩:∃r,r=rndT T v:=⟨_,rfl⟩;rw[←hrv]at HRV HSK HFS HY1;have HRE:=zhd hrv;have eV:=ze wr (.cells #[nth y 0,nth y 1,nth y 2,nth y 3,nth y 4,nth y 5,nth y 6,nth y 7] 65);have RV:=zi wr [nth y 0,nth y 1,nth y 2,nth y 3,nth y 4,nth y 5,nth y 6,nth y 7] 65;have exv:=za ex eV;have RLv:=RL.ext eV;have HFv:=zhd (yd HF.out eV);clear hrv hy8 hy1 hy0 hyr RL HF;go_upto_region 9 with fail;obtain ⟨wv,hwv⟩:=zn (wr.alloc (.cells #[nth y 0,nth y 1,nth y 2,nth y 3,nth y 4,nth y 5,nth y 6,nth y 7] 65));obtain ⟨VB,hVB⟩:=zn wr.heap.size;rw[←hwv]at RV exv RLv HFv ⊢;rw[←hVB]at RV ⊢;have v1:=RV.zc 1 rfl;rw[HY1.out]at v1;have lv:=RV.lt;clear hwv hVB u0 u1 u2 u3 u4 u5 u6 u7 bv vq ex eV RV wr;by_cases hrk:rv=k
   case neg=>
    have d1:((rv:Int) !=(k:Int))=true:=by rw[bne_iff_ne];omega
    have HL2:=zhd (HSK.out (by omega));rw[←HFS.out (by omega)]at HFv HFL;clear hrk HSK HFS;go_wp2;go_roundw
    case rel=>exact ⟨v+1,L,fa,fn,fc,by omega,by go_num,rfl,HL2,exv,RLv,HFv,HFL⟩
    case measure=>simp[intOf];omega
   have d1:((rv:Int) !=(k:Int))=false:=by rw[hrk];simp
   have HVK:Hid (rndT T v+m=K):=zhd (by rw[←HRE.out];omega);have hLl:=HL.out.len;have hfl:fn≤v:=by rw[HFL.out];exact zjJ _ _ _ _ _
   have cv:=rowInt RLv (k:=v) (by omega);have fv:=RLv.free v;have lb:=RLv.lt;have RL2:=rowSet RLv v v;have ex2:=exv.setCell (p:=⟨B2,v,none⟩) (by have:=HBW.out;simpa using this) (.int .i64 v);have HF2:=zhd (zJ (S:=fun b=>B2+1≤b) HFv.out (.of_grown (zj wv B2 v (.int .i64 v)) fun b hb e=>by injection e with e;omega) fun q hq=>(HFv.out.lt q hq).1);have qv:=xz B2 T.length T.length hlt;have HLN:=zhd hLl;clear hrk hLl exv RLv HFv HSK HFS;go_wp2;obtain ⟨wz,hwz⟩:=zn (wv.setCell ⟨B2,v,none⟩ (.int .i64 v));rw[←hwz]at RL2 ex2 HF2 ⊢;clear hwz cv fv lb v1 lv d1 wv;have HMAXv:Hid (∀y∈L,WF y):=zhd fun y hy=>by
    obtain ⟨i,hi,rfl⟩:=List.getElem_of_mem hy;have h3:=HL.out.at' i (by rw[←HL.out.len];exact hi);rw[yM hi]at h3;rw[h3];exact zkj HTB.out HND.out (by omega) (by rw[←HL.out.len];exact hi)
   have HLV:Hid ((L.set v (v:Int)).length=T.length∧(∀y∈L.set v (v:Int),WF y)∧LabA T ch K m (L.set v (v:Int))):=zhd ⟨by rw[List.length_set];exact HL.out.len,fun y hy=>by
    rcases List.mem_or_eq_of_mem_set hy with h1 | h1
    ·exact HMAXv.out y h1
    ·rw[h1];exact WF.small (by omega),HL.out.a.set hlt HVK.out _⟩
   have HSS:Hid (∀z:Int,(L.set v (v:Int)).set v z=L.set v z):=zhd fun z=>List.set_set ..;have HFA:=zhd (fun i=>(zdp (T:=T) (ch:=ch) (K:=K) (m:=m) (j:=v) (w:=i)).1);have HHIT:=zhd (fun w' (h1:w'∈firL T ch K m v) h2=>ziQ HTB.out HND.out hlt h1 h2);have HNON:=zhd (fun h=>zis (ch:=ch) HTB.out HND.out hlt HVK.out h);have HSR:Hid (∀z,z<T.length→samB T ch (nth (L.set v (v:Int))) v z=samB T ch (quoF T ch K m) v z):=zhd fun z hz=>zjv HTB.out HLV.out.2.2 HVK.out hlt hz;have HSTP:Hid (LabI T ch K m (v+1) (L.set v ((lstV T ch (quoF T ch K m) v:Nat):Int))):=zhd (HL.out.step HVK.out hlt);have HOLD:=zhd (fun h=>ziW (T:=T) (ch:=ch) (K:=K) (m:=m) (j:=v) h);have HNEW:=zhd (fun h=>zjw (T:=T) (ch:=ch) (K:=K) (m:=m) (j:=v) HVK.out h);obtain ⟨Fl,hFl⟩:∃l,l=firL T ch K m v:=⟨_,rfl⟩;rw[←hFl]at HF2 HFL HFA HHIT HNON HOLD HNEW;obtain ⟨lst,hlst⟩:∃z,z=lstV T ch (quoF T ch K m) v:=⟨_,rfl⟩;rw[←hlst]at HHIT HNON HSTP HOLD HNEW;obtain ⟨Lv,hLv⟩:∃l,l=L.set v (v:Int):=⟨_,rfl⟩;rw[←hLv]at RL2 HLV HSS HSR;have HLVE:=zhd hLv;have HIXF:Hid (∀(S:Nat→Prop) W (h:W.ownsRow (B2+1) 3 1 (.slice fa fn fc) fn ((Fl.map fun z:Nat=>(z:Int)).map (Value.int .i64))),Ints (fun b=>B2+1≤b) W (.slice fa fn fc) (Fl.map fun z:Nat=>(z:Int))):=zhd fun S W h=>Ints.of_own h fun y hy=>by
    obtain ⟨z,hz,rfl⟩:=List.mem_map.1 hy;have:=(HFA.out z hz).1;exact WF.small (by omega)
   clear hFl hlst hLv HL HMAXv;go_loopw [8,10,51] (fun bv _ iv wi=>∃i:Nat,i≤fn∧iv=.int .i64 i∧bv=.bool false∧Hid (∀z∈Fl.take i,samB T ch (quoF T ch K m) v z=false)∧Below w.heap.size w wi∧Row wi B2 3 ((Lv).map (Value.int .i64))∧Hid (wi.ownsRow (B2+1) 3 1 (.slice fa fn fc) fn ((Fl.map fun z:Nat=>(z:Int)).map (Value.int .i64)))) (fun _ _ iv _=>fn - (intOf iv).toNat)
   case atStart=>exact ⟨0,Nat.zero_le _,rfl,rfl,zhd fun z hz=>by simp at hz,ex2,RL2,HF2⟩
   case round=>
    clear ex2 RL2 HF2;obtain ⟨i,hi,rfl,rfl,HJ,ex,RL,HF⟩:=hrel;by_cases hil:i<fn
    case neg=>
     obtain rfl:i=fn:=by omega
     have HE:Hid (lst=v):=zhd (HNON.out fun z hz=>HJ.out z (by rw[HFL.out,List.take_length];exact hz));have HL2:Hid (LabI T ch K m (v+1) Lv):=zhd (by rw[HLVE.out,←HE.out];rw[HE.out];have:=HSTP.out;rw[HE.out]at this;exact this);have HN2:=zhd (HNEW.out HE.out);have hsz:=RL.lt;have HRL:=zhd RL;clear RL;go_wp2_with (at_builtin;refine zQ rfl (.tmp 67) (.tmp 69) 36 rfl 3 _ 8 Tryz.underlying36 zI rfl (B2+1) _ _ _ rfl HF.out (.int .i64 v) rfl rfl (by omega) (by omega) (by omega) ?_;intro g' c' w5 hown5 hbel5 hag5 hat5);have HF5:Hid (w5.ownsRow (B2+1) 3 1 (.slice (some ⟨g',0,none⟩) (i+1) c') (i+1) (((firL T ch K m (v+1)).map fun z:Nat=>(z:Int)).map (Value.int .i64))):=zhd (by rw[HN2.out,foldCast];exact hown5);have HFL5:Hid (i+1=(firL T ch K m (v+1)).length):=zhd (by rw[HN2.out,List.length_append,←HFL.out];rfl);have RL5:=HRL.out.agree (S:=fun b=>b=B2) (.of_below hbel5 fun b hb _=>by omega) rfl;have ex5:=ex.trans (hbel5.mono (by have:=HBW.out;omega));clear HRL hown5 hbel5 hag5 hat5 ex HF;go_wp2;go_roundw
     case rel=>exact ⟨v+1,Lv,_,_,_,by omega,by go_num,rfl,HL2,ex5,RL5,HF5,HFL5⟩
     case measure=>simp[intOf];omega
    have hi':=HIXF.out (fun _=>True) wr HF.out;have hil2:i<(Fl.map fun z:Nat=>(z:Int)).length:=by rw[List.length_map,←HFL.out];exact hil
    have hilF:i<Fl.length:=by rw[←HFL.out];exact hil
    have qi:∀W:World,(Instr.indexAt 36 (.slice fa fn fc) (.int .i64 i)).run Tryz.prog W=.ok (.pointer (some (adr fa i))) W:=fun W=>by
     have:=(show Ints (fun b=>B2+1≤b) wr (.slice fa (Fl.map fun z:Nat=>(z:Int)).length fc) (Fl.map fun z:Nat=>(z:Int)) by rw[List.length_map,←HFL.out];exact hi').idx hil2 W;rw[List.length_map,←HFL.out]at this;exact this
    have ci:=hi'.cellN hil2;rw[yM hil2,List.getElem_map]at ci;have hzm:=List.getElem_mem hilF;have HTK:Hid (∀z∈Fl.take (i+1),z∈Fl.take i∨z=Fl[i]):=zhd fun z hz=>by
     rw[←List.take_append_getElem hilF,List.mem_append,List.mem_singleton]at hz;exact hz
    obtain ⟨z,hz⟩:=zn (Fl[i]);rw[←hz]at ci hzm HTK;have hzT:z<T.length:=by have:=(HFA.out z hzm).1;omega
    have KS2:=zhd (KS.out (fun b=>b=B2) (.slice (some ⟨B2,0,none⟩) T.length T.length) Lv v z HLV.out.1 hlt hzT wr ex (by
     have:=RL.ints (by rw[HLV.out.1];unfold maxLen;omega) HLV.out.2.1;rw[HLV.out.1]at this;exact this))
    rw[HSR.out z hzT]at KS2;have HHZ:=zhd (HHIT.out z hzm);have HZV:Hid (z<v):=zhd (HFA.out z hzm).1;obtain ⟨b,hb⟩:=zn (samB T ch (quoF T ch K m) v z);rw[←hb]at KS2 HHZ;have HBZ:=zhd hb;have bi:=World.block_lt_of_cell? _ _ ci;have lB:=RL.lt;clear hb hz hzm hi' hil2 hilF;go_wp2_with fail;refine KS2.out.mono ?_;rintro _ w1 ⟨_,rfl,hb1,rfl⟩;replace RL:=RL.ext hb1;replace ex:=za ex hb1;replace HF:=zhd (yd HF.out hb1);clear hb1 KS2 ci bi lB qi;cases b with
    | false=>
     have HJ2:Hid (∀q∈Fl.take (i+1),samB T ch (quoF T ch K m) v q=false):=zhd fun q hq=>by
      rcases HTK.out q hq with h1 | h1
      ·exact HJ.out q h1
      ·rw[h1];exact HBZ.out.symm
     go_wp2;go_roundw
     case rel=>exact ⟨i+1,by omega,by go_num,rfl,HJ2,ex,RL,HF⟩
     case measure=>simp[intOf];omega
    | true=>
     have HE:Hid (lst=z):=zhd (HHZ.out rfl);have HL2:Hid (LabI T ch K m (v+1) (L.set v (z:Int))):=zhd (by have:=HSTP.out;rw[HE.out]at this;exact this);have HFO:=HOLD.out (by rw[HE.out];have:=HZV.out;omega);rw[←HFO]at HF HFL;have cv:=rowInt RL (k:=v) (by rw[HLV.out.1];exact hlt);have fv:=RL.free v;have lb:=RL.lt;have RL2:=rowSet RL v z;rw[HSS.out]at RL2;have ex2:=ex.setCell (p:=⟨B2,v,none⟩) (by have:=HBW.out;simpa using this) (.int .i64 z);have HF2:=zhd (zJ (S:=fun b=>B2+1≤b) HF.out (.of_grown (zj w1 B2 v (.int .i64 z)) fun b hb e=>by injection e with e;omega) fun q hq=>(HF.out.lt q hq).1);clear HFO RL ex HF;go_wp2;go_roundw
     case rel=>exact ⟨v+1,_,fa,fn,fc,by omega,by go_num,rfl,HL2,ex2,RL2,HF2,HFL⟩
     case measure=>simp[intOf];omega
end Go.Proofs.YtiabbjolepnjkaaGreat
