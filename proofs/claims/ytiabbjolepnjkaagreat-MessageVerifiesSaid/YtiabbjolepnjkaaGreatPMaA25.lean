/- Part of the proof that the laws answer true for every input. -/
import Derived.Test.YtiabbjolepnjkaaGreatPMaA23
import Derived.Test.YtiabbjolepnjkaaGreatPMaA24
import Derived.Sort.QuietIn
set_option linter.unusedSimpArgs false
set_option linter.unnecessarySimpa false
set_option linter.unusedVariables false
set_option maxRecDepth 100000
set_option maxHeartbeats 40000000
namespace Go.Proofs.YtiabbjolepnjkaaGreat
open Go.RowKit Go.Shelf
attribute [local go_sem ↓] Go.wp_at_zero Go.wp_at_succ
attribute [local go_sem] Oper.semAt_some
theorem zbg {w w':World} (h:Below w.heap.size w w'):w.grownBy w' none:=⟨h.os,h.tape,h.output,h.size,fun k hk _=>h.block k hk⟩
theorem ze9 {β:Type} {B:Nat} {J:β→World→Prop} (hJ:AbidesFrom B J) {s:β} {W W':World} (h:J s W) (hq:Below W.heap.size W W'):J s W':=hJ s W W' none h (zbg hq) (fun r e=>by cases e)
def hrN (T:List (List Int)) (v:Nat):List Nat:=(List.range T.length).filter fun u=>hrsB T u v
theorem zec (T:List (List Int)) (v:Nat):hrdL T T.length v=(hrN T v).map fun u:Nat=>(u:Int):=rfl
theorem zgs (T:List (List Int)) (v:Nat):(hrN T v).length≤T.length:=by
 unfold hrN;exact Nat.le_trans (List.length_filter_le _ _) (by simp)
theorem zdx {T:List (List Int)} {v u:Nat}:u∈hrN T v↔u<T.length∧hrsB T u v=true:=by unfold hrN;rw[List.mem_filter,List.mem_range]
theorem zcV {S:Nat→Prop} {w:World} {a:Option Addr} {n c:Nat} {l:List (List Int)} (h:Lists S w (.slice a n c) l) {k:Nat} (hk:k<l.length) (W:World):(Instr.indexAt 146 (.slice a n c) (.int .i64 k)).run Tryz.prog W=.ok (.pointer (some (adr a k))) W:=by
 obtain ⟨_,_,hee,ad,_⟩:=h.form;cases hee;obtain ⟨i0,hi,_,hz1,_⟩:=info_parts zL;exact zE Tryz.underlying146 hi hz1 ad k hk W
abbrev Hrd (T:List (List Int)) (v:Nat):Type:={u:Nat // u<T.length∧hrsB T u v=true}
theorem zaj (w:World) (g:Nat) (v x:Int):Calls Tryz.prog 89 #[.pointer (some ⟨g,0,none⟩),v,x] w fun q w'=>q=.returned (.func (.func 123) #[] #[.pointer (some ⟨w.heap.size,0,none⟩),.pointer (some ⟨w.heap.size+1,0,none⟩),.pointer (some ⟨w.heap.size+1+1,0,none⟩)])∧w'=((w.alloc (.cells #[.pointer (some ⟨g,0,none⟩)] 103)).alloc (.cells #[v] 3)).alloc (.cells #[x] 3):=by
 go_enter Tryz.func89,Tryz.ntmps89;go_wp2;go_ret;exact ⟨rfl,rfl⟩
theorem zaL {T:Nat→Prop} {w:World} {n B1 B2 B3 g v x:Nat} {s:SysF} {ch:List Int} (hn:1≤n) (R1:Row w B1 103 [.pointer (some ⟨g,0,none⟩)]) (R2:Row w B2 3 [v]) (R3:Row w B3 3 [x]) (V:ScnV T w g s ch)
  (hv:v<s.tab.length) (hx:x<s.tab.length) (hT1:T B1) (hT2:T B2) (hT3:T B3) (hTw:∀b,T b→b<w.heap.size):
  SeqStopsK Fence.wide n Tryz.prog 123 #[.pointer (some ⟨B1,0,none⟩),.pointer (some ⟨B2,0,none⟩),.pointer (some ⟨B3,0,none⟩)] (fun u:Hrd s.tab v=>#[.int .i64 u.1,.int .i64 (repT s.tab u.1 v x)]) (Agree T) (fun l=>l.map (·.1)=hrN s.tab v) (fun pre=>pre.map (·.1)<+:hrN s.tab v) s.tab.length w:=by
 intro l J Jx W hW hJ hJx hY h0;have HY:=zhd hY;have H0:=zhd h0;have HJ:=zhd hJ;have R1:=R1.ext hW;have R2:=R2.ext hW;have R3:=R3.ext hW;have V:=V.ext hW;have HR1:Hid (∀W',Agree T W W'→Row W' B1 103 [.pointer (some ⟨g,0,none⟩)]):=zhd fun W' h=>R1.agree h hT1;have HR2:Hid (∀W',Agree T W W'→Row W' B2 3 [v]):=zhd fun W' h=>R2.agree h hT2;have HR3:Hid (∀W',Agree T W W'→Row W' B3 3 [x]):=zhd fun W' h=>R3.agree h hT3;have HV:Hid (∀W',Agree T W W'→ScnV T W' g s ch):=zhd fun W' h=>V.agree h;have hfew:=V.dat.few;have KR:Hid (∀u,u<s.tab.length→∀W',Agree T W W'→Calls Tryz.prog 57 #[.pointer (some ⟨g,0,none⟩),u,v,x] W' (Post W' fun _ r=>r=.int .i64 (repT s.tab u v x))):=zhd fun u hu W' h=>zcB (HV.out W' h) hu hv (WF.small (by omega));have p1:=R1.zc 0 rfl;have p2:=R2.zc 0 rfl;have l1:=R1.lt;have l2:=R2.lt;have lg:=V.lt;obtain ⟨ca,cc,sa,sc,ta,tc,xa,xc,a2,c2,la,lc,mb,R,_,_,_,_,hL⟩:=V.mem;have p12:=R.zc 12 rfl;have lq:=zcV hL (k:=v) (by rw[YN];exact hv);obtain ⟨vv,cv,iv⟩:=(show Lists T W (.slice la (hrdLL s.tab).length lc) (hrdLL s.tab) by rw[YN];exact hL).at (.refl _ _) (k:=v) (by rw[YN];exact hv);rw[ze7 hv]at iv;obtain ⟨va,vc,rfl,_⟩:=iv.form;have bv:=World.block_lt_of_cell? _ _ cv;have hln:(hrdL s.tab s.tab.length v).length=(hrN s.tab v).length:=by rw[zec,List.length_map]
 have HQ:Hid (∀k,k<(hrN s.tab v).length→∀W:World,(Instr.indexAt 36 (.slice va (hrN s.tab v).length vc) (.int .i64 k)).run Tryz.prog W=.ok (.pointer (some (adr va k))) W):=zhd fun k hk W=>by
  have:=iv.idx (k:=k) (by rw[hln];exact hk) W;rw[hln]at this;exact this
 have HC:Hid (∀W',Agree T W W'→∀k (hk:k<(hrN s.tab v).length),W'.cell? (adr va k)=some (.int .i64 ((hrN s.tab v)[k]:Nat))):=zhd fun W' h k hk=>by
  have:=(iv.agree h).cellN (k:=k) (by rw[hln];exact hk);rw[this,zec,yv (by rw[List.length_map];exact hk),List.getElem_map]
 rw[hln]at cv;have HNL:=zhd (zgs s.tab v);have HMEM:Hid (∀k (hk:k<(hrN s.tab v).length),(hrN s.tab v)[k]<s.tab.length∧hrsB s.tab (hrN s.tab v)[k] v=true):=zhd fun k hk=>zdx.1 (List.getElem_mem hk);have HTK:Hid (∀k (hk:k<(hrN s.tab v).length),(hrN s.tab v).take (k+1)=(hrN s.tab v).take k++[(hrN s.tab v)[k]]):=zhd fun k hk=>(List.take_append_getElem hk).symm;obtain ⟨H,hH⟩:=zn (hrN s.tab v);rw[←hH]at cv HQ HC HNL HMEM HTK ⊢;have hag:Agree T W W:=.refl _ _;have hNN:H.length≤120:=by have:=HNL.out;omega
 clear hJ hJx hY h0 R1 R2 R3 V hTw iv hL R hln hH;refine callsIn_of_wp Tryz.func123 rfl trivial ?_ rfl;simp only[Tryz.ntmps123,List.size_toArray,List.length_cons,List.length_nil,Nat.reduceAdd,Nat.reduceSub,Array.replicate_succ,Array.replicate_zero,List.push_toArray,List.append_toArray,List.nil_append,List.cons_append];gi_wp2;gi_quiet (fail);have H1:=zhd (ze3 HJ.out H0.out ⟨nq,rfl⟩);have hag1:Agree T W (W.drewN nq):=zy T W nq;clear p1 p2 l1 l2 lg p12 lq cv bv hag H0;gi_wp2;gi_loopw [6,15] (fun _ i wr=>∃(k:Nat) (pre:List (Hrd s.tab v)),k≤H.length∧i=.int .i64 k∧Hid (J pre wr)∧Hid (pre.map (·.1)=H.take k)∧Agree T W wr) (fun _ i _=>H.length - (intOf i).toNat)
 case atStart=>exact ⟨0,[],Nat.zero_le _,rfl,H1,zhd rfl,hag1⟩
 case round=>
  clear hag1 H1;obtain ⟨k,pre,hk,rfl,HJs,HP,hA⟩:=hrel;by_cases hlt:k<H.length
  case neg=>
   obtain rfl:k=H.length:=by omega
   have HPE:Hid (pre.map (·.1)=H):=zhd (by rw[HP.out,List.take_length]);gi_wp2;go_end0;exact ⟨⟨_,rfl⟩,.inl ⟨pre,HPE.out,HJs.out⟩⟩
  have q1:=HQ.out k hlt;have c1:=HC.out wr hA k hlt;have hm:=HMEM.out k hlt;have HTKk:=zhd (HTK.out k hlt);obtain ⟨u,hu⟩:=zn (H[k]);rw[←hu]at c1 hm HTKk;have KR2:=zhd (KR.out u hm.1 wr hA);have b1:=World.block_lt_of_cell? _ _ c1;have p1:=(HR1.out wr hA).zc 0 rfl;have p2:=(HR2.out wr hA).zc 0 rfl;have p3:=(HR3.out wr hA).zc 0 rfl;have l1:=(HR1.out wr hA).lt;have l2:=(HR2.out wr hA).lt;have l3:=(HR3.out wr hA).lt;have HHM:=zhd hm;have HPN:Hid ((pre++[(⟨u,HHM.out⟩:Hrd s.tab v)]).map (·.1)=H.take (k+1)):=zhd (by rw[HTKk.out,List.map_append,HP.out];rfl);have HPX:Hid ((pre++[(⟨u,HHM.out⟩:Hrd s.tab v)]).map (·.1)<+:H):=zhd (by rw[HPN.out];exact List.take_prefix _ _);have hpl:pre.length<s.tab.length:=by
   have h2:=congrArg List.length HP.out;rw[List.length_map,List.length_take]at h2;have:=HNL.out;omega
  have HPL:=zhd hpl;obtain ⟨y,hy⟩:=zn (repT s.tab u v x);rw[←hy]at KR2;have HYE:=zhd hy;clear hu hm hy hpl;gi_wp2_with fail
  refine ⟨trivial,(callsIn_wide.2 KR2.out).mono ?_⟩;rintro _ w1 ⟨_,rfl,hb,rfl⟩;replace HJs:=zhd (ze9 HJ.out HJs.out hb);replace hA:Agree T W w1:=hA.trans (.of_ext hb);clear KR2 p1 p2 p3 l1 l2 l3 c1 b1 q1 hb;obtain ⟨fn,tmps,assign,body,hyy,hRnd⟩:=HY.out pre ⟨u,HHM.out⟩ _ HJs.out HPL.out;dsimp only at hyy;rw[←HYE.out]at hyy;gi_wp2;refine hRnd.mono ?_;rintro e W3 (⟨rfl,hJ3,hk3⟩ | ⟨rfl,hJx3⟩)
  ·have HJ3:=zhd hJ3;have hA3:=hA.trans hk3;clear hJ3 hyy hRnd;gi_wp2;go_roundw
   case rel=>exact ⟨k+1,_,by omega,by go_num,HJ3,HPN,hA3⟩
   case measure=>simp[intOf];omega
  ·have HJ3:=zhd hJx3;clear hJx3 hyy hRnd;gi_wp2;refine bodyPost_ret (results_none rfl _ _ _) rfl ?_;exact ⟨⟨_,rfl⟩,.inr ⟨_,HPX.out,HJ3.out⟩⟩
theorem Y9 {A S2:Nat→Prop} {w:World} {g v x:Nat} {vl:Value} {s:SysF} {ch L:List Int} (h:ScnV A w g s ch) (h2:Ints S2 w vl L) (hl:L.length=s.tab.length) (hv:v<s.tab.length) (hx:x<s.tab.length):
  Calls Tryz.prog 85 #[.pointer (some ⟨g,0,none⟩),vl,v,x] w (Post w fun _ r=>r=.bool (folB s.tab (nth L) v x)):=by
 obtain ⟨a2,c2,rfl,_⟩:=h2.form;have HVB:=h.block;have hfew:=h.dat.few;have HY:Hid ((∀u,u<s.tab.length→hrsB s.tab u v=true→0≤repT s.tab u v x∧nth L (repT s.tab u v x).toNat=nth L u)→folB s.tab (nth L) v x=true):=zhd Zd.2;have HN:Hid (∀u,u<s.tab.length→hrsB s.tab u v=true→¬(0≤repT s.tab u v x∧nth L (repT s.tab u v x).toNat=nth L u)→folB s.tab (nth L) v x=false):=zhd fun u hu hh hk=>zdH hu hh hk;have HB:Hid (∀u, -1≤repT s.tab u v x∧repT s.tab u v x<s.tab.length):=zhd fun u=>QR;have HMEM:Hid (∀u,u∈hrN s.tab v↔u<s.tab.length∧hrsB s.tab u v=true):=zhd fun u=>zdx;have HQ:Hid (∀k,k<s.tab.length→∀W:World,(Instr.indexAt 36 (.slice a2 L.length c2) (.int .i64 k)).run Tryz.prog W=.ok (.pointer (some (adr a2 k))) W):=zhd fun k hk W=>h2.idx (by omega) W;have HC:Hid (∀k,k<s.tab.length→w.cell? (adr a2 k)=some (.int .i64 (nth L k))):=zhd fun k hk=>h2.cellN (by omega);obtain ⟨r,hr⟩:=zn (folB s.tab (nth L) v x);rw[←hr]at HY HN ⊢;obtain ⟨n,hn⟩:=zn L.length;rw[←hn]at HQ ⊢;have ex:=zh (ze w (.cells #[.slice a2 n c2] 36)) (.cells #[.bool false] 4);have RC:=(zg w [.slice a2 n c2] 36).alloc (.cells #[.bool false] 4);have RR:=zg (w.alloc (.cells #[.slice a2 n c2] 36)) [.bool false] 4;rw[World.size_alloc]at RR;have HV0:=zhd (HVB.ext ex);obtain ⟨B0,hB0⟩:=zn w.heap.size;obtain ⟨B1,hB1⟩:=zn (w.heap.size+1);obtain ⟨w1,hw1⟩:=zn (((w.alloc (.cells #[.slice a2 n c2] 36)).alloc (.cells #[.bool false] 4)));have HBB:Hid (w.heap.size≤B0∧w.heap.size≤B1∧B0=w.heap.size):=zhd ⟨by omega,by omega,hB0⟩;rw[←hB1]at RR;rw[←hB0]at RC;rw[←hw1]at RC RR ex HV0;have HW1:=zhd hw1;have HB0:=zhd hB0;have HB1:=zhd hB1;have KT:=zhd (zaj w1 g v x);have HEX1:=zhd ex;have HNE:Hid (n=s.tab.length):=zhd (hn.trans hl);clear h h2 hl hr hn hw1 hB0 hB1 HVB ex;refine (callsIn_wide (n:=6)).1 ?_;refine callsIn_of_wp_marks Tryz.func85 rfl trivial ?_ rfl;simp only[Tryz.ntmps85,List.size_toArray,List.length_cons,List.length_nil,Nat.reduceAdd,Nat.reduceSub,Array.replicate_succ,Array.replicate_zero,List.push_toArray,List.append_toArray,List.nil_append,List.cons_append];gi_wp2_with fail
 rw[←HW1.out,←HB1.out,←HB0.out];refine ⟨trivial,(callsIn_wide.2 KT.out).mono ?_⟩;rintro _ _ ⟨rfl,rfl⟩;have e3:=zh (zh (ze w1 (.cells #[.pointer (some ⟨g,0,none⟩)] 103)) (.cells #[v] 3)) (.cells #[x] 3);have P1:=((zg w1 [.pointer (some ⟨g,0,none⟩)] 103).alloc (.cells #[v] 3)).alloc (.cells #[x] 3);have P2:=(zg (w1.alloc (.cells #[.pointer (some ⟨g,0,none⟩)] 103)) [v] 3).alloc (.cells #[x] 3);have P3:=zg ((w1.alloc (.cells #[.pointer (some ⟨g,0,none⟩)] 103)).alloc (.cells #[v] 3)) [x] 3;simp only[World.size_alloc]at P2 P3;obtain ⟨N1,hN1⟩:=zn w1.heap.size;obtain ⟨N2,hN2⟩:=zn (w1.heap.size+1);obtain ⟨N3,hN3⟩:=zn (w1.heap.size+1+1);obtain ⟨w3,hw3⟩:=zn (((w1.alloc (.cells #[.pointer (some ⟨g,0,none⟩)] 103)).alloc (.cells #[v] 3)).alloc (.cells #[x] 3));rw[←hN3]at P3;rw[←hN2]at P2;rw[←hN1]at P1;rw[←hw3]at P1 P2 P3 e3;rw[←hw3,←hN3,←hN2,←hN1];have hx3:=za HEX1.out e3;have RC3:=RC.ext e3;have RR3:=RR.ext e3;have HV3:=zhd (HV0.out.ext e3);have zw:=hx3.size;have zR:=RR3.lt;clear hw3 KT HV0 RC RR;have hTw:∀b,(b<w.heap.size∨b=N1∨b=N2∨b=N3)→b<w3.heap.size:=fun b hb=>by have:=P1.lt;have:=P2.lt;have:=P3.lt;omega
 have HST:=zaL (T:=fun b=>b<w.heap.size∨b=N1∨b=N2∨b=N3) (n:=5) (by decide) P1 P2 P3 (HV3.out.mono fun b hb=>.inl hb.2) hv hx (.inr (.inl rfl)) (.inr (.inr (.inl rfl))) (.inr (.inr (.inr rfl))) hTw;clear hN1 hN2 hN3 P1 P2 P3 e3;gi_wp2;apply wpIn_rangeFunc_ownF (n:=6) rfl (by decide) (gf:=123) (lb:=#[.pointer (some ⟨N1,0,none⟩),.pointer (some ⟨N2,0,none⟩),.pointer (some ⟨N3,0,none⟩)]) rfl trivial (enters_of Tryz.func123 (by kernel_rfl) rfl)
  HST xA (xE hTw) (Below.refl _ _) (fun _=>rfl)
  (fun (pre:List (Hrd s.tab v)) W=>(∀u∈pre,(0≤repT s.tab u.1 v x∧nth L (repT s.tab u.1 v x).toNat=nth L u.1))∧Below w3.heap.size w3 W)
  (fun c (pre:List (Hrd s.tab v)) W=>c=.ret∧r=false∧Row W B1 4 [.bool false]∧Below w.heap.size w W)
  (OwnFrom.and (ownFrom_pure _ _) (ownFrom_below (Nat.le_refl _) (Nat.le_refl _)))
  (fun c=>OwnFrom.and (ownFrom_pure _ _) (OwnFrom.and (ownFrom_pure _ _) (OwnFrom.and (yr (xs:=fun _=>[.bool false]) zR) (ownFrom_below (Nat.le_refl _) zw))))
  ⟨by simp,Below.refl _ _⟩
 case hassign=>
  intro l u W Kq hK;have hK:=zhd hK;gi_wp2;exact hK.out
 case hbody=>
  rintro l pre ⟨u,hu,hh⟩ W ⟨hgd,hB⟩ hlen;dsimp only;have zzPC:=RC3.ext hB;have PR:=RR3.ext hB;have hBw3:Below w.heap.size w W:=za hx3 hB;have c0:=zzPC.zc 0 rfl;have p0:=PR.zc 0 rfl;have f0:=PR.free 0;have lc:=zzPC.lt;have lr:=PR.lt;have hrg:=HB.out u;have HGD:=zhd hgd;have HNu:=zhd (HN.out u hu hh);have cu:=zi (HC.out u hu) hBw3;have qu:=HQ.out u hu;have bu:=World.block_lt_of_cell? _ _ cu;obtain ⟨y,hy⟩:=zn (repT s.tab u v x);have HYY:=zhd hy;rw[←hy]at hrg HNu ⊢;obtain ⟨lu,hlu⟩:∃l,l=nth L u:=⟨_,rfl⟩;rw[←hlu]at cu HNu;have HLU:=zhd hlu;have FIN:Hid (r=false→∀W',(W'=W.drew.setCell ⟨B1,0,none⟩ (.bool false)∨W'=(W.setCell ⟨B1,0,none⟩ (.bool false)).drew)→KeepsOthers W W'∧r=false∧Row W' B1 4 [.bool false]∧Below w.heap.size w W'):=zhd fun hr0 W' hW'=>by
   rcases hW' with hW' | hW'
   ·subst hW';exact ⟨(zX (zb W.heap.size W 1)).trans (.setCell _ _ _),hr0,(PR.ext (zb _ _ 1)).set 0 _,(za hBw3 (zb _ _ 1)).setCell (by have:=HBB.out.2.1;simpa using this) _⟩
   ·subst hW';exact ⟨(KeepsOthers.setCell W _ _).trans (zX (zb _ _ 1)),hr0,(PR.set 0 (.bool false)).ext (zb _ _ 1),(hBw3.setCell (p:=⟨B1,0,none⟩) (by have:=HBB.out.2.1;simpa using this) (.bool false)).trans (zb _ _ 1)⟩
  have KPN:Hid (∀nq,KeepsOthers W (W.drewN nq)∧Agree (fun b=>b<w.heap.size∨b=N1∨b=N2∨b=N3) W (W.drewN nq)∧Below w3.heap.size w3 (W.drewN nq)):=zhd fun nq=>⟨zX (zb W.heap.size W nq),zy _ _ _,za hB (zb _ _ nq)⟩;clear hgd hlu zzPC PR hlen hB hBw3;by_cases hy0:y<0
  ·have d0:decide (y<0)=true:=decide_eq_true hy0;have HF:=zhd (FIN.out (HNu.out fun h=>by omega));clear hrg hy FIN;gi_wp2;refine yn (fun w':World=>w'.cell? ⟨B0,0,none⟩=some (.slice a2 n c2)) (fun i=>false) (by kernel_rfl) (by kernel_rfl) (by rintro ⟨_,_,h⟩;exact h) ?_ (fun hHeld=>?_)
   ·exact c0
   refine zu 0 hHeld ?_;refine zu 1 hHeld ?_;refine zu 2 hHeld ?_;refine zq 3 rfl (by kernel_rfl) (fun _ _ _ h=>h) (by rfl) hHeld ?_;try simp only[Act.put,zsa,zsz,zss]
   refine zq 4 rfl (by kernel_rfl) (fun _ _ _ h=>h) (by rfl) hHeld ?_;try simp only[Act.put,zsa,zsz,zss]
   refine zq 5 rfl (by kernel_rfl) (fun _ _ _ h=>h) (by rfl) hHeld ?_;try simp only[Act.put,zsa,zsz,zss]
   refine zq 6 rfl (by kernel_rfl) (fun _ _ _ h=>h) (by rfl) hHeld ?_;try simp only[Act.put,zsa,zsz,zss]
   refine zq 7 rfl (by kernel_rfl) (fun _ _ _ h=>h) (by rfl) hHeld ?_;try simp only[Act.put,zsa,zsz,zss]
   refine zq 8 rfl (by kernel_rfl) (fun _ _ _ h=>h) (by rfl) hHeld ?_;try simp only[Act.put,zsa,zsz,zss]
   refine zq 9 rfl (by kernel_rfl) (fun _ _ _ h=>h) (by rfl) hHeld ?_;try simp only[Act.put,zsa,zsz,zss]
   refine zq 10 rfl (by kernel_rfl) (fun _ _ _ h=>h) (by rfl) hHeld ?_;try simp only[Act.put,zsa,zsz,zss]
   refine zq 11 rfl (by kernel_rfl) (fun _ _ _ h=>h) (by rfl) hHeld ?_;try simp only[Act.put,zsa,zsz,zss]
   refine zu 12 hHeld ?_;refine zx (by kernel_rfl) ?_ _;clear hHeld;gi_wp2;exact ⟨(HF.out _ (by first | exact .inl rfl | exact .inr rfl)).1,rfl,(HF.out _ (by first | exact .inl rfl | exact .inr rfl)).2⟩
  obtain ⟨z,hz⟩:∃z:Nat,y=z:=⟨y.toNat,by omega⟩;have hzn:z<s.tab.length:=by omega
  have cz:=zi (HC.out z hzn) (show Below w.heap.size w W from za hx3 (by have:=(KPN.out 0).2.2;exact this));have qz:=HQ.out z hzn;have bz:=World.block_lt_of_cell? _ _ cz;have HNz:Hid (nth L z≠lu→r=false):=zhd fun hne=>HNu.out fun h=>hne (by have:=h.2;rw[hz,Int.toNat_natCast]at this;exact this);have HOKz:Hid (nth L z=lu→(0≤repT s.tab u v x∧nth L (repT s.tab u v x).toNat=nth L u)):=zhd fun he=>by rw[←HYY.out,hz,Int.toNat_natCast,←HLU.out];exact ⟨by omega,he⟩
  obtain ⟨lz,hlz⟩:∃l,l=nth L z:=⟨_,rfl⟩;rw[←hlz]at cz HNz HOKz;have d0:decide ((z:Int)<0)=false:=decide_eq_false (by omega);rw[hz];clear hy hz hlz hrg hy0 HYY HNu HLU;by_cases he:lz=lu
  ·have d1:(lz !=lu)=false:=by simp[he]
   have HOK:=zhd (HOKz.out he);clear he HNz HOKz FIN;gi_wp2;refine yn (fun w':World=>w'.cell? ⟨B0,0,none⟩=some (.slice a2 n c2)∧w'.cell? (adr a2 u)=some (.int .i64 lu)∧w'.cell? (adr a2 z)=some (.int .i64 lz)) (fun i=>false) (by kernel_rfl) (by kernel_rfl) (by rintro ⟨_,_,h⟩;exact h) ?_ (fun hHeld=>?_)
   ·exact ⟨c0,cu,cz⟩
   refine zu 0 hHeld ?_;refine zu 1 hHeld ?_;refine zu 2 hHeld ?_;refine zu 3 hHeld ?_;refine zu 4 hHeld ?_;refine zu 5 hHeld ?_;refine zu 6 hHeld ?_;refine zu 7 hHeld ?_;refine zu 8 hHeld ?_;refine zu 9 hHeld ?_;refine zu 10 hHeld ?_;refine zu 11 hHeld ?_;refine zu 12 hHeld ?_;refine zx (by kernel_rfl) ?_ _;clear hHeld;gi_wp2;exact ⟨(KPN.out _).1,(KPN.out _).2.1,fun q hq=>by
    rcases List.mem_append.1 hq with hq | hq
    ·exact HGD.out q hq
    ·rw[List.mem_singleton.1 hq];exact HOK.out,(KPN.out _).2.2⟩
  ·have d1:(lz !=lu)=true:=by simp[he]
   have HF:=zhd (FIN.out (HNz.out he));clear he HNz HOKz FIN;gi_wp2;refine yn (fun w':World=>w'.cell? ⟨B0,0,none⟩=some (.slice a2 n c2)∧w'.cell? (adr a2 u)=some (.int .i64 lu)∧w'.cell? (adr a2 z)=some (.int .i64 lz)) (fun i=>false) (by kernel_rfl) (by kernel_rfl) (by rintro ⟨_,_,h⟩;exact h) ?_ (fun hHeld=>?_)
   ·exact ⟨c0,cu,cz⟩
   refine zu 0 hHeld ?_;refine zu 1 hHeld ?_;refine zu 2 hHeld ?_;refine zu 3 hHeld ?_;refine zu 4 hHeld ?_;refine zu 5 hHeld ?_;refine zu 6 hHeld ?_;refine zu 7 hHeld ?_;refine zu 8 hHeld ?_;refine zu 9 hHeld ?_;refine zu 10 hHeld ?_;refine zu 11 hHeld ?_;refine zu 12 hHeld ?_;refine zx (by kernel_rfl) ?_ _;clear hHeld;gi_wp2;exact ⟨(HF.out _ (by first | exact .inl rfl | exact .inr rfl)).1,rfl,(HF.out _ (by first | exact .inl rfl | exact .inr rfl)).2⟩
 case hstop=>
  rintro D c pre W hD hSp ⟨rfl,hrf,PB,hBw3⟩ hK;gi_wp2;refine ⟨by simp,.inl ⟨_,_,rfl,run_takeDeferred hK,?_⟩⟩;have P9:=PB.putObj (.deferred none) hK rfl;have hB9:=hBw3.grown (grownBy_putObj' _ D (.deferred none)) hBw3.size (fun k hk=>by cases hk;omega);have q9:=P9.zc 0 rfl;exact ⟨.bool false,by simp[results,Tryz.results85,go_sem,q9],.mk hB9 (zv hrf.symm)⟩
 case hdone=>
  rintro D xs W hD hS ⟨hgd,hB⟩ hK;have hrt:r=true:=HY.out fun u hu hh=>by
   have hm:=(HMEM.out u).2 ⟨hu,hh⟩;rw[←hS]at hm;obtain ⟨q,hq,rfl⟩:=List.mem_map.1 hm;exact hgd q hq
  have HRT:=zhd hrt;have PN:=RR3.ext hB;have hBw3:Below w.heap.size w W:=za hx3 hB;have q0:=PN.zc 0 rfl;have f0:=PN.free 0;have l0:=PN.lt;clear hgd hS hrt;have KD:(W.setCell ⟨B1,0,none⟩ (.bool true)).heap[D]? =some (.deferred (some [])):=(KeepsOthers.setCell W _ _).same D _ hK rfl;have P9:=(PN.set 0 (.bool true)).putObj (.deferred none) KD rfl;have hB8:Below w.heap.size w (W.setCell ⟨B1,0,none⟩ (.bool true)):=hBw3.setCell (by have:=HBB.out.2.1;simpa using this) _;have hB9:=hB8.grown (grownBy_putObj' _ D (.deferred none)) hB8.size (fun k hk=>by cases hk;omega);have q9:=P9.zc 0 rfl;gi_wp2;refine ⟨by simp,.inl ⟨_,_,rfl,run_takeDeferred KD,?_⟩⟩;exact ⟨.bool true,by simp[results,Tryz.results85,go_sem,q9],.mk hB9 (zv HRT.out.symm)⟩
end Go.Proofs.YtiabbjolepnjkaaGreat
namespace Go.Proofs.YtiabbjolepnjkaaGreat
open Go.RowKit
attribute [local go_sem ↓] Go.wp_at_zero Go.wp_at_succ
theorem zbt {A S2:Nat→Prop} {w:World} {g v x:Nat} {vl:Value} {s:SysF} {ch L:List Int} (h:ScnV A w g s ch) (h2:Ints S2 w vl L) (hl:L.length=s.tab.length) (hv:v<s.tab.length) (hx:x<s.tab.length):
  Calls Tryz.prog 49 #[.pointer (some ⟨g,0,none⟩),vl,v,x] w (Post w fun _ r=>r=.bool (samB s.tab ch (nth L) v x)):=by
 have KA:Hid (∀W,Below w.heap.size w W→Calls Tryz.prog 84 #[.pointer (some ⟨g,0,none⟩),v,x] W (Post W fun _ r=>r=.bool (likB s.tab v x))):=zhd fun W hW=>zai (h.ext hW) hv hx;have KF1:Hid (∀W,Below w.heap.size w W→Calls Tryz.prog 85 #[.pointer (some ⟨g,0,none⟩),vl,v,x] W (Post W fun _ r=>r=.bool (folB s.tab (nth L) v x))):=zhd fun W hW=>Y9 (h.ext hW) (h2.ext hW) hl hv hx;have KF2:Hid (∀W,Below w.heap.size w W→Calls Tryz.prog 85 #[.pointer (some ⟨g,0,none⟩),vl,x,v] W (Post W fun _ r=>r=.bool (folB s.tab (nth L) x v))):=zhd fun W hW=>Y9 (h.ext hW) (h2.ext hW) hl hx hv;have HR:Hid (samB s.tab ch (nth L) v x=(likB s.tab v x&&(decide (nth ch v=nth ch x)&&(folB s.tab (nth L) v x&&folB s.tab (nth L) x v)))):=zhd rfl;obtain ⟨r,hr⟩:=zn (samB s.tab ch (nth L) v x);rw[←hr]at HR ⊢;obtain ⟨al,ha⟩:∃b,b=likB s.tab v x:=⟨_,rfl⟩;obtain ⟨f1,hf1⟩:∃b,b=folB s.tab (nth L) v x:=⟨_,rfl⟩;obtain ⟨f2,hf2⟩:∃b,b=folB s.tab (nth L) x v:=⟨_,rfl⟩;rw[←ha]at KA HR;rw[←hf1]at KF1 HR;rw[←hf2]at KF2 HR;obtain ⟨al',cl',rfl,_⟩:=h2.form;obtain ⟨ca,cc,sa,sc,ta,tc,xa,xc,a2,c2,la,lc,mb,R,_,_,_,hrr,_⟩:=h.mem;have hlen:=h.dat.len;have vq:=hrr.idx (k:=v) (by omega);have xq:=hrr.idx (k:=x) (by omega);have vc:=hrr.cellN (k:=v) (by omega);have xc':=hrr.cellN (k:=x) (by omega);obtain ⟨cv,hcv⟩:∃c,c=nth ch v:=⟨_,rfl⟩;obtain ⟨cx,hcx⟩:∃c,c=nth ch x:=⟨_,rfl⟩;rw[←hcv,←hcx]at HR;rw[←hcv]at vc;rw[←hcx]at xc';have KEEP:Hid (∀w',Below w.heap.size w w'→(fun w':World=>w'.cell? ⟨g,10,none⟩=some (.slice a2 ch.length c2)∧w'.cell? (adr a2 v)=some (.int .i64 cv)∧w'.cell? (adr a2 x)=some (.int .i64 cx)) w'):=zhd fun w' hw=>⟨(R.ext hw).zc 10 rfl,zi vc hw,zi xc' hw⟩;clear h h2 hl hv hx hr ha hf1 hf2 hcv hcx hrr R hlen vc xc';go_enter Tryz.func49,Tryz.ntmps49;go_upto_region 1 with fail;cases al with
 | false=>
  have RE:Hid (r=false):=zhd (HR.out.trans rfl);clear HR;refine zC (fun w':World=>w'.cell? ⟨g,10,none⟩=some (.slice a2 ch.length c2)∧w'.cell? (adr a2 v)=some (.int .i64 cv)∧w'.cell? (adr a2 x)=some (.int .i64 cx)) (fun i=>false) (by kernel_rfl) ?_ (fun hHeld=>?_)
  ·exact KEEP.out _ (zb w.heap.size w 1)
  refine zt 0 hHeld ?_;refine zt 1 hHeld ?_;refine zt 2 hHeld ?_;refine zo 3 (fun K hK=>?_)
  (go_simp;go_at_call 84;refine (KA.out _ (zb w.heap.size w 1)).mono ?_;rintro _ v1 ⟨_,rfl,hb,rfl⟩;have y1:=za (zb w.heap.size w 1) hb;clear hb)
  refine zk hK (KEEP.out _ y1) (fun hHeld=>?_);clear hK K;refine zt 4 hHeld ?_;refine zq 5 rfl (by kernel_rfl) (fun _ _ _ h=>h) (by rfl) hHeld ?_;try simp only[Act.put,zsa,zsz,zss]
  refine zq 6 rfl (by kernel_rfl) (fun _ _ _ h=>h) (by rfl) hHeld ?_;try simp only[Act.put,zsa,zsz,zss]
  refine zq 7 rfl (by kernel_rfl) (fun _ _ _ h=>h) (by rfl) hHeld ?_;try simp only[Act.put,zsa,zsz,zss]
  refine zq 8 rfl (by kernel_rfl) (fun _ _ _ h=>h) (by rfl) hHeld ?_;try simp only[Act.put,zsa,zsz,zss]
  refine zq 9 rfl (by kernel_rfl) (fun _ _ _ h=>h) (by rfl) hHeld ?_;try simp only[Act.put,zsa,zsz,zss]
  refine zq 10 rfl (by kernel_rfl) (fun _ _ _ h=>h) (by rfl) hHeld ?_;try simp only[Act.put,zsa,zsz,zss]
  refine zq 11 rfl (by kernel_rfl) (fun _ _ _ h=>h) (by rfl) hHeld ?_;try simp only[Act.put,zsa,zsz,zss]
  refine zq 12 rfl (by kernel_rfl) (fun _ _ _ h=>h) (by rfl) hHeld ?_;try simp only[Act.put,zsa,zsz,zss]
  refine zq 13 rfl (by kernel_rfl) (fun _ _ _ h=>h) (by rfl) hHeld ?_;try simp only[Act.put,zsa,zsz,zss]
  refine zq 14 rfl (by kernel_rfl) (fun _ _ _ h=>h) (by rfl) hHeld ?_;try simp only[Act.put,zsa,zsz,zss]
  refine zq 15 rfl (by kernel_rfl) (fun _ _ _ h=>h) (by rfl) hHeld ?_;try simp only[Act.put,zsa,zsz,zss]
  refine zq 16 rfl (by kernel_rfl) (fun _ _ _ h=>h) (by rfl) hHeld ?_;try simp only[Act.put,zsa,zsz,zss]
  refine zq 17 rfl (by kernel_rfl) (fun _ _ _ h=>h) (by rfl) hHeld ?_;try simp only[Act.put,zsa,zsz,zss]
  refine zq 18 rfl (by kernel_rfl) (fun _ _ _ h=>h) (by rfl) hHeld ?_;try simp only[Act.put,zsa,zsz,zss]
  refine zq 19 rfl (by kernel_rfl) (fun _ _ _ h=>h) (by rfl) hHeld ?_;try simp only[Act.put,zsa,zsz,zss]
  refine zq 20 rfl (by kernel_rfl) (fun _ _ _ h=>h) (by rfl) hHeld ?_;try simp only[Act.put,zsa,zsz,zss]
  refine zq 21 rfl (by kernel_rfl) (fun _ _ _ h=>h) (by rfl) hHeld ?_;try simp only[Act.put,zsa,zsz,zss]
  refine zt 22 hHeld ?_;refine zt 23 hHeld ?_;refine zq 24 rfl (by kernel_rfl) (fun _ _ _ h=>h) (by rfl) hHeld ?_;try simp only[Act.put,zsa,zsz,zss]
  refine zq 25 rfl (by kernel_rfl) (fun _ _ _ h=>h) (by rfl) hHeld ?_;try simp only[Act.put,zsa,zsz,zss]
  refine zq 26 rfl (by kernel_rfl) (fun _ _ _ h=>h) (by rfl) hHeld ?_;try simp only[Act.put,zsa,zsz,zss]
  refine zq 27 rfl (by kernel_rfl) (fun _ _ _ h=>h) (by rfl) hHeld ?_;try simp only[Act.put,zsa,zsz,zss]
  refine zq 28 rfl (by kernel_rfl) (fun _ _ _ h=>h) (by rfl) hHeld ?_;try simp only[Act.put,zsa,zsz,zss]
  refine zt 29 hHeld ?_;refine zt 30 hHeld ?_;refine zq 31 rfl (by kernel_rfl) (fun _ _ _ h=>h) (by rfl) hHeld ?_;try simp only[Act.put,zsa,zsz,zss]
  refine zq 32 rfl (by kernel_rfl) (fun _ _ _ h=>h) (by rfl) hHeld ?_;try simp only[Act.put,zsa,zsz,zss]
  refine zq 33 rfl (by kernel_rfl) (fun _ _ _ h=>h) (by rfl) hHeld ?_;try simp only[Act.put,zsa,zsz,zss]
  refine zq 34 rfl (by kernel_rfl) (fun _ _ _ h=>h) (by rfl) hHeld ?_;try simp only[Act.put,zsa,zsz,zss]
  refine zq 35 rfl (by kernel_rfl) (fun _ _ _ h=>h) (by rfl) hHeld ?_;try simp only[Act.put,zsa,zsz,zss]
  refine zt 36 hHeld ?_;refine zt 37 hHeld ?_;refine zx (by kernel_rfl) ?_ _;clear hHeld KEEP;go_wp2;go_ret;exact .mk y1 (zv RE.out.symm)
 | true=>
 by_cases hc:cv=cx
 case neg=>
  have d1:(cv==cx)=false:=by simp[hc]
  have RE:Hid (r=false):=zhd (HR.out.trans (by rw[decide_eq_false hc,Bool.false_and,Bool.and_false]));clear HR hc;refine zC (fun w':World=>w'.cell? ⟨g,10,none⟩=some (.slice a2 ch.length c2)∧w'.cell? (adr a2 v)=some (.int .i64 cv)∧w'.cell? (adr a2 x)=some (.int .i64 cx)) (fun i=>false) (by kernel_rfl) ?_ (fun hHeld=>?_)
  ·exact KEEP.out _ (zb w.heap.size w 1)
  refine zt 0 hHeld ?_;refine zt 1 hHeld ?_;refine zt 2 hHeld ?_;refine zo 3 (fun K hK=>?_)
  (go_simp;go_at_call 84;refine (KA.out _ (zb w.heap.size w 1)).mono ?_;rintro _ v1 ⟨_,rfl,hb,rfl⟩;have y1:=za (zb w.heap.size w 1) hb;clear hb)
  refine zk hK (KEEP.out _ y1) (fun hHeld=>?_);clear hK K;refine zt 4 hHeld ?_;refine zt 5 hHeld ?_;refine zt 6 hHeld ?_;refine zt 7 hHeld ?_;refine zt 8 hHeld ?_;refine zt 9 hHeld ?_;refine zt 10 hHeld ?_;refine zt 11 hHeld ?_;refine zt 12 hHeld ?_;refine zt 13 hHeld ?_;refine zt 14 hHeld ?_;refine zt 15 hHeld ?_;refine zt 16 hHeld ?_;refine zt 17 hHeld ?_;refine zt 18 hHeld ?_;refine zt 19 hHeld ?_;refine zt 20 hHeld ?_;refine zt 21 hHeld ?_;refine zt 22 hHeld ?_;refine zt 23 hHeld ?_;refine zq 24 rfl (by kernel_rfl) (fun _ _ _ h=>h) (by rfl) hHeld ?_;try simp only[Act.put,zsa,zsz,zss]
  refine zq 25 rfl (by kernel_rfl) (fun _ _ _ h=>h) (by rfl) hHeld ?_;try simp only[Act.put,zsa,zsz,zss]
  refine zq 26 rfl (by kernel_rfl) (fun _ _ _ h=>h) (by rfl) hHeld ?_;try simp only[Act.put,zsa,zsz,zss]
  refine zq 27 rfl (by kernel_rfl) (fun _ _ _ h=>h) (by rfl) hHeld ?_;try simp only[Act.put,zsa,zsz,zss]
  refine zq 28 rfl (by kernel_rfl) (fun _ _ _ h=>h) (by rfl) hHeld ?_;try simp only[Act.put,zsa,zsz,zss]
  refine zt 29 hHeld ?_;refine zt 30 hHeld ?_;refine zq 31 rfl (by kernel_rfl) (fun _ _ _ h=>h) (by rfl) hHeld ?_;try simp only[Act.put,zsa,zsz,zss]
  refine zq 32 rfl (by kernel_rfl) (fun _ _ _ h=>h) (by rfl) hHeld ?_;try simp only[Act.put,zsa,zsz,zss]
  refine zq 33 rfl (by kernel_rfl) (fun _ _ _ h=>h) (by rfl) hHeld ?_;try simp only[Act.put,zsa,zsz,zss]
  refine zq 34 rfl (by kernel_rfl) (fun _ _ _ h=>h) (by rfl) hHeld ?_;try simp only[Act.put,zsa,zsz,zss]
  refine zq 35 rfl (by kernel_rfl) (fun _ _ _ h=>h) (by rfl) hHeld ?_;try simp only[Act.put,zsa,zsz,zss]
  refine zt 36 hHeld ?_;refine zt 37 hHeld ?_;refine zx (by kernel_rfl) ?_ _;clear hHeld KEEP;go_wp2;go_ret;exact .mk y1 (zv RE.out.symm)
 have d1:(cv==cx)=true:=by simp[hc]
 have HR2:Hid (r=(f1&&f2)):=zhd (HR.out.trans (by rw[decide_eq_true hc,Bool.true_and,Bool.true_and]));clear HR hc;cases f1 with
 | false=>
  have RE:Hid (r=false):=zhd (HR2.out.trans rfl);clear HR2;refine zC (fun w':World=>w'.cell? ⟨g,10,none⟩=some (.slice a2 ch.length c2)∧w'.cell? (adr a2 v)=some (.int .i64 cv)∧w'.cell? (adr a2 x)=some (.int .i64 cx)) (fun i=>false) (by kernel_rfl) ?_ (fun hHeld=>?_)
  ·exact KEEP.out _ (zb w.heap.size w 1)
  refine zt 0 hHeld ?_;refine zt 1 hHeld ?_;refine zt 2 hHeld ?_;refine zo 3 (fun K hK=>?_)
  (go_simp;go_at_call 84;refine (KA.out _ (zb w.heap.size w 1)).mono ?_;rintro _ v1 ⟨_,rfl,hb,rfl⟩;have y1:=za (zb w.heap.size w 1) hb;clear hb)
  refine zk hK (KEEP.out _ y1) (fun hHeld=>?_);clear hK K;refine zt 4 hHeld ?_;refine zt 5 hHeld ?_;refine zt 6 hHeld ?_;refine zt 7 hHeld ?_;refine zt 8 hHeld ?_;refine zt 9 hHeld ?_;refine zt 10 hHeld ?_;refine zt 11 hHeld ?_;refine zt 12 hHeld ?_;refine zt 13 hHeld ?_;refine zt 14 hHeld ?_;refine zt 15 hHeld ?_;refine zt 16 hHeld ?_;refine zt 17 hHeld ?_;refine zt 18 hHeld ?_;refine zt 19 hHeld ?_;refine zt 20 hHeld ?_;refine zt 21 hHeld ?_;refine zt 22 hHeld ?_;refine zt 23 hHeld ?_;refine zt 24 hHeld ?_;refine zt 25 hHeld ?_;refine zt 26 hHeld ?_;refine zt 27 hHeld ?_;refine zo 28 (fun K hK=>?_)
  (go_simp;go_at_call 85;refine (KF1.out _ y1).mono ?_;rintro _ v2 ⟨_,rfl,hb,rfl⟩;have y2:=za y1 hb;clear hb)
  refine zk hK (KEEP.out _ y2) (fun hHeld=>?_);clear hK K;refine zt 29 hHeld ?_;refine zt 30 hHeld ?_;refine zq 31 rfl (by kernel_rfl) (fun _ _ _ h=>h) (by rfl) hHeld ?_;try simp only[Act.put,zsa,zsz,zss]
  refine zq 32 rfl (by kernel_rfl) (fun _ _ _ h=>h) (by rfl) hHeld ?_;try simp only[Act.put,zsa,zsz,zss]
  refine zq 33 rfl (by kernel_rfl) (fun _ _ _ h=>h) (by rfl) hHeld ?_;try simp only[Act.put,zsa,zsz,zss]
  refine zq 34 rfl (by kernel_rfl) (fun _ _ _ h=>h) (by rfl) hHeld ?_;try simp only[Act.put,zsa,zsz,zss]
  refine zq 35 rfl (by kernel_rfl) (fun _ _ _ h=>h) (by rfl) hHeld ?_;try simp only[Act.put,zsa,zsz,zss]
  refine zt 36 hHeld ?_;refine zt 37 hHeld ?_;refine zx (by kernel_rfl) ?_ _;clear hHeld KEEP;go_wp2;go_ret;exact .mk y2 (zv RE.out.symm)
 | true=>
 have RE:Hid (r=f2):=zhd (HR2.out.trans (Bool.true_and _));clear HR2;cases f2 with
 | false=>
  refine zC (fun w':World=>w'.cell? ⟨g,10,none⟩=some (.slice a2 ch.length c2)∧w'.cell? (adr a2 v)=some (.int .i64 cv)∧w'.cell? (adr a2 x)=some (.int .i64 cx)) (fun i=>false) (by kernel_rfl) ?_ (fun hHeld=>?_)
  ·exact KEEP.out _ (zb w.heap.size w 1)
  refine zt 0 hHeld ?_;refine zt 1 hHeld ?_;refine zt 2 hHeld ?_;refine zo 3 (fun K hK=>?_)
  (go_simp;go_at_call 84;refine (KA.out _ (zb w.heap.size w 1)).mono ?_;rintro _ v1 ⟨_,rfl,hb,rfl⟩;have y1:=za (zb w.heap.size w 1) hb;clear hb)
  refine zk hK (KEEP.out _ y1) (fun hHeld=>?_);clear hK K;refine zt 4 hHeld ?_;refine zt 5 hHeld ?_;refine zt 6 hHeld ?_;refine zt 7 hHeld ?_;refine zt 8 hHeld ?_;refine zt 9 hHeld ?_;refine zt 10 hHeld ?_;refine zt 11 hHeld ?_;refine zt 12 hHeld ?_;refine zt 13 hHeld ?_;refine zt 14 hHeld ?_;refine zt 15 hHeld ?_;refine zt 16 hHeld ?_;refine zt 17 hHeld ?_;refine zt 18 hHeld ?_;refine zt 19 hHeld ?_;refine zt 20 hHeld ?_;refine zt 21 hHeld ?_;refine zt 22 hHeld ?_;refine zt 23 hHeld ?_;refine zt 24 hHeld ?_;refine zt 25 hHeld ?_;refine zt 26 hHeld ?_;refine zt 27 hHeld ?_;refine zo 28 (fun K hK=>?_)
  (go_simp;go_at_call 85;refine (KF1.out _ y1).mono ?_;rintro _ v2 ⟨_,rfl,hb,rfl⟩;have y2:=za y1 hb;clear hb)
  refine zk hK (KEEP.out _ y2) (fun hHeld=>?_);clear hK K;refine zt 29 hHeld ?_;refine zt 30 hHeld ?_;refine zt 31 hHeld ?_;refine zt 32 hHeld ?_;refine zt 33 hHeld ?_;refine zt 34 hHeld ?_;refine zo 35 (fun K hK=>?_)
  (go_simp;go_at_call 85;refine (KF2.out _ y2).mono ?_;rintro _ v3 ⟨_,rfl,hb,rfl⟩;have y3:=za y2 hb;clear hb)
  refine zk hK (KEEP.out _ y3) (fun hHeld=>?_);clear hK K;refine zt 36 hHeld ?_;refine zt 37 hHeld ?_;refine zx (by kernel_rfl) ?_ _;clear hHeld KEEP;go_wp2;go_ret;exact .mk y3 (zv RE.out.symm)
 | true=>
  refine zC (fun w':World=>w'.cell? ⟨g,10,none⟩=some (.slice a2 ch.length c2)∧w'.cell? (adr a2 v)=some (.int .i64 cv)∧w'.cell? (adr a2 x)=some (.int .i64 cx)) (fun i=>false) (by kernel_rfl) ?_ (fun hHeld=>?_)
  ·exact KEEP.out _ (zb w.heap.size w 1)
  refine zt 0 hHeld ?_;refine zt 1 hHeld ?_;refine zt 2 hHeld ?_;refine zo 3 (fun K hK=>?_)
  (go_simp;go_at_call 84;refine (KA.out _ (zb w.heap.size w 1)).mono ?_;rintro _ v1 ⟨_,rfl,hb,rfl⟩;have y1:=za (zb w.heap.size w 1) hb;clear hb)
  refine zk hK (KEEP.out _ y1) (fun hHeld=>?_);clear hK K;refine zt 4 hHeld ?_;refine zt 5 hHeld ?_;refine zt 6 hHeld ?_;refine zt 7 hHeld ?_;refine zt 8 hHeld ?_;refine zt 9 hHeld ?_;refine zt 10 hHeld ?_;refine zt 11 hHeld ?_;refine zt 12 hHeld ?_;refine zt 13 hHeld ?_;refine zt 14 hHeld ?_;refine zt 15 hHeld ?_;refine zt 16 hHeld ?_;refine zt 17 hHeld ?_;refine zt 18 hHeld ?_;refine zt 19 hHeld ?_;refine zt 20 hHeld ?_;refine zt 21 hHeld ?_;refine zt 22 hHeld ?_;refine zt 23 hHeld ?_;refine zt 24 hHeld ?_;refine zt 25 hHeld ?_;refine zt 26 hHeld ?_;refine zt 27 hHeld ?_;refine zo 28 (fun K hK=>?_)
  (go_simp;go_at_call 85;refine (KF1.out _ y1).mono ?_;rintro _ v2 ⟨_,rfl,hb,rfl⟩;have y2:=za y1 hb;clear hb)
  refine zk hK (KEEP.out _ y2) (fun hHeld=>?_);clear hK K;refine zt 29 hHeld ?_;refine zt 30 hHeld ?_;refine zt 31 hHeld ?_;refine zt 32 hHeld ?_;refine zt 33 hHeld ?_;refine zt 34 hHeld ?_;refine zo 35 (fun K hK=>?_)
  (go_simp;go_at_call 85;refine (KF2.out _ y2).mono ?_;rintro _ v3 ⟨_,rfl,hb,rfl⟩;have y3:=za y2 hb;clear hb)
  refine zk hK (KEEP.out _ y3) (fun hHeld=>?_);clear hK K;refine zt 36 hHeld ?_;refine zt 37 hHeld ?_;refine zx (by kernel_rfl) ?_ _;clear hHeld KEEP;go_wp2;go_ret;exact .mk y3 (zv RE.out.symm)
end Go.Proofs.YtiabbjolepnjkaaGreat
