/- Part of the proof that the laws answer true for every input. -/
import Derived.Test.YtiabbjolepnjkaaGreatPDfC05
import Derived.Test.YtiabbjolepnjkaaGreatPDfC06
set_option linter.unusedSimpArgs false
set_option linter.unnecessarySimpa false
set_option linter.unusedVariables false
set_option maxRecDepth 100000
set_option maxHeartbeats 40000000
namespace Go.Proofs.YtiabbjolepnjkaaGreat
open Go.RowKit
attribute [local go_sem ↓] Go.wp_at_zero Go.wp_at_succ
theorem zbP {f:Nat→Int} {n i:Nat} (h:i<n):nth (keys f n) i=f i:=by
 simp[nth,keys,h]
theorem zhT {s:SysF} (hg:GoodS s s.N s.K) {ch:List Int} {u x:Nat} (hu:u<s.tab.length) (hx:x<s.tab.length) (hp:prcT s.tab u=prcT s.tab x) (hr:rndT s.tab u=rndT s.tab x):
  disL s.tab ch s.K (min u x) (max u x)=[]↔nth (keys (quoE s.tab ch s.K) s.tab.length) u=nth (keys (quoE s.tab ch s.K) s.tab.length) x:=by
 rw[zbP hu,zbP hx,←qQ hu hx];show _↔nth (quoL s ch) u=nth (quoL s ch) x;rcases Nat.le_total u x with h | h
 ·rw[Nat.min_eq_left h,Nat.max_eq_right h];exact zaj hg hu hx hp hr
 ·rw[Nat.min_eq_right h,Nat.max_eq_left h,zaj hg hx hu hp.symm hr.symm];exact eq_comm
theorem zkk {s:SysF} {ch:List Int} {u x:Nat} (h0:pairE s ch u x=0) (w':World) (hd:disL s.tab ch s.K (min u x) (max u x)=[]):DisR s ch u x w' (.tuple #[.slice none 0 0,.bool false,.int .i64 0]):=by
 refine .inl ⟨h0,.slice none 0 0,?_,?_⟩
 ·rw[Int.toNat_natCast,Int.toNat_natCast,decide_eq_false (fun h=>h.2 hd)]
 ·rw[Int.toNat_natCast,Int.toNat_natCast,hd];split<;>exact Ints.nil _ _
theorem zjn {s:SysF} {ch:List Int} {u x:Nat} (h0:pairE s ch u x=0) (hne:u≠x) (w':World) (a:Option Addr) (c:Nat) (hd:disL s.tab ch s.K (min u x) (max u x)≠[]) (hi:Ints TT w' (.slice a (disL s.tab ch s.K (min u x) (max u x)).length c) (disL s.tab ch s.K (min u x) (max u x))):DisR s ch u x w' (.tuple #[.slice a (disL s.tab ch s.K (min u x) (max u x)).length c,.bool true,.int .i64 0]):=by
 have hne':¬(u:Int)=x:=fun e=>hne (by omega);refine .inl ⟨h0,.slice a (disL s.tab ch s.K (min u x) (max u x)).length c,?_,?_⟩
 ·rw[Int.toNat_natCast,Int.toNat_natCast,decide_eq_true ⟨hne',hd⟩]
 ·rw[Int.toNat_natCast,Int.toNat_natCast,if_neg hne'];exact hi
def TrN (T:List (List Int)) (ch:List Int) (a b m j:Nat):Prop:=(1≤j→pthT T ch m a b=[])∧(2≤j→pthT T ch m b a=[])
theorem YA {S:Nat→Prop} {w:World} {v vch:Value} {s:SysF} {ch:List Int} (u' x':Int) (h:SysV S w v s) (hf:PFew s.p) (h2:Ints S w vch ch) (hm:s.tab.length≤120):
  Calls Tryz.prog 20 #[v,.agg #[vch],u',x'] w (Post w (DisR s ch u' x')):=by
 have KO:Hid (∀W,Below w.heap.size w W→Calls Tryz.prog 52 #[v,.agg #[vch],u',x'] W (Post W (PairR W.heap.size S s ch u' x'))):=zhd fun W hW=>QQ u' x' (h.ext hW) hf (h2.ext hW) hm;obtain ⟨DR,hDR⟩:=zn (DisR s ch u' x');have HE:Hid (∀w',pairE s ch u' x'≠0→DR w' (.tuple #[.slice none 0 0,.bool false,pairE s ch u' x'])):=zhd fun w' h0=>by rw[hDR];exact .inr ⟨h0,rfl⟩
 have HG:Hid (pairE s ch u' x'=0→∃u x:Nat,u'=u∧x'=x∧u<s.tab.length∧x<s.tab.length∧s.p.rounds=s.K∧s.K≤6∧(disL s.tab ch s.K (min u x) (max u x)=[]↔nth (keys (quoE s.tab ch s.K) s.tab.length) u=nth (keys (quoE s.tab ch s.K) s.tab.length) x)∧(∀w',disL s.tab ch s.K (min u x) (max u x)=[]→DR w' (.tuple #[.slice none 0 0,.bool false,.int .i64 0]))∧∀w' a c,disL s.tab ch s.K (min u x) (max u x)≠[]→Ints TT w' (.slice a (disL s.tab ch s.K (min u x) (max u x)).length c) (disL s.tab ch s.K (min u x) (max u x))→DR w' (.tuple #[.slice a (disL s.tab ch s.K (min u x) (max u x)).length c,.bool true,.int .i64 0])):=zhd fun h0=>by
  have hg:=(yj h (YD h0).1).1;obtain ⟨hr0,hu1,hu2,hx1,hx2,hpp,hrr⟩:=YD h0;obtain ⟨u,rfl⟩:∃u:Nat,u'=u:=⟨u'.toNat,by omega⟩;obtain ⟨x,rfl⟩:∃x:Nat,x'=x:=⟨x'.toNat,by omega⟩;rw[Int.toNat_natCast,Int.toNat_natCast]at hpp hrr;have hu:u<s.tab.length:=by omega
  have hx:x<s.tab.length:=by omega
  have hk:=zhT (ch:=ch) hg hu hx hpp hrr;refine ⟨u,x,rfl,rfl,hu,hx,hg.rnd,hg.K6,hk,fun w' hd=>by rw[hDR];exact zkk h0 w' hd,fun w' a c hd hi=>by
   rw[hDR];refine zjn h0 (fun e=>?_) w' a c hd hi;subst e;exact hd (hk.2 rfl)⟩
 rw[←hDR];obtain ⟨ca,cc,sa,sc,ta,tc,xa,xc,rfl,hc,hs,ht,hx⟩:=h.zf;obtain ⟨a2,c2,rfl,_⟩:=h2.form;obtain ⟨ex,R0,R1⟩:=zb2 w [s.p.n,s.p.ins,s.p.outs,.slice ca s.p.cs.length cc,s.p.an,.slice sa s.p.st.length sc,s.p.rounds,s.tn,.slice ta s.tab.length tc,.slice xa s.ex.length xc] [.slice a2 ch.length c2] 35 38;clear hc hs ht hx h2 hf hDR;go_enter Tryz.func20,Tryz.ntmps20;obtain ⟨t0,t1,t2,t3,t4,t5,t6,t7,t8,t9⟩:=R0.ten;have l0:=R0.lt;have r0:=R1.zc 0 rfl;have l1:=R1.lt;go_wp2_with fail;refine (KO.out _ ex).mono ?_;rintro _ w1 ⟨_,rfl,hb,hO⟩;replace R0:=R0.ext hb;replace R1:=R1.ext hb;replace ex:=za ex hb;clear hb KO t0 t1 t2 t3 t4 t5 t6 t7 t8 t9 l0 r0 l1;rcases hO with ⟨h0,g,rfl,hSc⟩ | ⟨h0,rfl⟩
 case inr=>
  have RE:=zhd (HE.out w1 h0);obtain ⟨e,hee⟩:=zn (pairE s ch u' x');rw[←hee]at RE h0 ⊢;have d0:(e !=0)=true:=by simp[h0]
  clear h0 HE hee HG;go_wp2;go_ret3;exact .mk ex RE.out
 obtain ⟨u,x,rfl,rfl,hu,hx,hrd,hK6,hdk,hy0,hy1⟩:=HG.out h0;have HRD:=zhd hrd;have HDK:=zhd hdk;have HY0:=zhd hy0;have HY1:=zhd hy1;have KC:=zhd (ZB hSc);have HSc:=zhd hSc;have d0:((0:Int) !=0)=false:=rfl;obtain ⟨kl,hkl⟩:∃l,l=keys (quoE s.tab ch s.K) s.tab.length:=⟨_,rfl⟩;have hkn:kl.length=s.tab.length:=by rw[hkl,length_keys]
 rw[←hkl]at KC HDK;have HKN:=zhd hkn;have huk:u<kl.length:=by omega
 have hxk:x<kl.length:=by omega
 clear h0 HE HG hrd hdk hy0 hy1 hSc hkl hkn;go_wp2_with fail;refine KC.out.mono ?_;rintro _ w2 ⟨r2,rfl,hb2,hi2⟩;obtain ⟨a3,c3,rfl,_⟩:=hi2.form;replace HSc:=zhd (HSc.out.ext hb2);replace R0:=R0.ext hb2;replace R1:=R1.ext hb2;replace ex:=za ex hb2;have qu:=fun W:World=>hi2.idx huk W;have qx:=fun W:World=>hi2.idx hxk W;have cu:=hi2.cellN huk;have cx:=hi2.cellN hxk;have bu:=World.block_lt_of_cell? _ _ cu;have bx:=World.block_lt_of_cell? _ _ cx;obtain ⟨lu,hlu⟩:∃l,l=nth kl u:=⟨_,rfl⟩;obtain ⟨lx,hlx⟩:∃l,l=nth kl x:=⟨_,rfl⟩;rw[←hlu]at cu HDK;rw[←hlx]at cx HDK;have hux0:lu≠lx→u≠x:=fun h e=>h (by rw[hlu,hlx,e]);have yb:=fun n=>za ex (zb w2.heap.size w2 n);have ys:=fun n=>HSc.out.ext (zb w2.heap.size w2 n);have y0:=fun n=>R0.ext (zb w2.heap.size w2 n);clear hlu hlx hb2 hi2 KC ex R0 R1;by_cases hee:lu=lx
 ·have RE:=zhd (HY0.out · (HDK.out.2 hee));have d1:(lu==lx)=true:=by simp[hee]
  clear hee HY0 HY1 HDK HKN HSc hux0;go_wp2;go_quiet (fail);go_wp2;go_ret3;exact .mk (yb _) (RE.out _)
 have HDN:=zhd (fun hd=>hee (HDK.out.1 hd));have d1:(lu==lx)=false:=by rw[beq_eq_false_iff_ne];exact hee
 have hux:=hux0 hee;obtain ⟨a,ha⟩:=zn (min u x);obtain ⟨b,hb⟩:=zn (max u x);rw[←ha,←hb]at HDN HY1;have hmn:(if x<u then (x:Int) else (u:Int))=(a:Int):=by split<;>omega
 have hmx:(if u<x then (x:Int) else (u:Int))=(b:Int):=by split<;>omega
 have han:a<s.tab.length:=by omega
 have hbn:b<s.tab.length:=by omega
 have HFS:Hid (∀m:Nat,m≤s.K→(∀i,i<m→disF s.tab ch a b i=[])→disF s.tab ch a b m≠[]→disL s.tab ch s.K a b=disF s.tab ch a b m):=zhd fun m h6 h7 h8=>zg4 (Nat.zero_le _) (by omega) (fun i _ hi=>h7 i hi) h8;have HFN:Hid (¬∀i,i<s.K+1→disF s.tab ch a b i=[]):=zhd fun h7=>HDN.out (Zz.2 fun i _ hi=>h7 i (by omega));have HPP:Hid (∀m:Nat,m≤6→∀p q:Nat,p<s.tab.length→q<s.tab.length→∀A W,ScnV A W g s ch→Calls Tryz.prog 54 #[.pointer (some ⟨g,0,none⟩),p,q,m] W (Post W (PthR W.heap.size (pthT s.tab ch m p q)))):=zhd fun m hm p q hp hq A W hs=>Xe g s ch m hm A W p q hs hp (by omega) (by omega);obtain ⟨D,hD⟩:=zn (disL s.tab ch s.K a b);rw[←hD]at HFS HDN HY1;obtain ⟨K,hK⟩:=zn s.K;rw[←hK]at HFS HFN HRD hK6;clear hee hux0 hux ha hb hD hK HY0 HDK HKN;have t6:=fun n=>(y0 n).zc 6 rfl;have l0:=fun n=>(y0 n).lt;rw[HRD.out]at t6;go_wp2;go_quiet (fail);go_wp2;go_loopw [14,16,17,44,63] (fun _ _ _ mv _ wr=>∃m:Nat,m≤K+1∧mv=.int .i64 m∧Hid (∀i,i<m→disF s.tab ch a b i=[])∧Below w.heap.size w wr∧Hid (∃A,ScnV A wr g s ch)) (fun _ _ _ mv _ _=>K+1 - (intOf mv).toNat)
 case atStart=>exact ⟨0,Nat.zero_le _,rfl,zhd fun i hi=>by omega,yb _,zhd ⟨_,ys _⟩⟩
 case round=>
  clear yb ys y0 t6 l0 HSc qu qx cu cx bu bx d1;obtain ⟨m,hmK,rfl,HF,ex,HSc⟩:=hrel;by_cases hlt:m<K+1
  case neg=>
   obtain rfl:m=K+1:=by omega
   exact absurd HF.out HFN.out
  have dlt:decide ((m:Int)<(K:Int)+1)=true:=decide_eq_true (by omega);have RL:=zi wr [a,b,b,a] 46;have hxa:=ze wr (.cells #[a,b,b,a] 46);obtain ⟨A0,hA0⟩:=HSc.out;have HS5:=zhd (hA0.ext hxa);replace ex:=za ex hxa;go_wp2;obtain ⟨w5,hw5⟩:=zn (wr.alloc (.cells #[a,b,b,a] 46));obtain ⟨BL,hBL⟩:∃B,B=wr.heap.size:=⟨_,rfl⟩;have hw5':wr.alloc (.cells #[a,b,b,a] 46)=w5:=hw5.symm;rw[←hw5]at RL ex HS5;rw[←hBL]at RL ⊢;rw[hw5'];clear hw5 hw5' hBL hxa HSc hA0;go_loopw [16,17,63] (fun _ _ jv wi=>∃j:Nat,j≤2∧jv=.int .i64 j∧Hid (TrN s.tab ch a b m j)∧Below w.heap.size w wi∧Row wi BL 46 [a,b,b,a]∧Hid (∃A,ScnV A wi g s ch)) (fun _ _ jv _=>2 - (intOf jv).toNat)
  case atStart=>exact ⟨0,by omega,rfl,zhd ⟨fun h=>by omega,fun h=>by omega⟩,ex,RL,zhd ⟨_,HS5.out⟩⟩
  case round=>
   clear ex RL HS5;obtain ⟨j,hj,rfl,HT,ex,RL,HSc⟩:=hrel;obtain ⟨A,hA⟩:=HSc.out;rcases (show j=0∨j=1∨j=2 by omega) with rfl | rfl | rfl
   ·skip
    have KP:Hid (∀W,Below wr.heap.size wr W→Calls Tryz.prog 54 #[.pointer (some ⟨g,0,none⟩),a,b,m] W (Post W (PthR W.heap.size (pthT s.tab ch m a b)))):=zhd fun W hW=>HPP.out m (by omega) a b han hbn A W (hA.ext hW);have HN:Hid (pthT s.tab ch m a b=[]→TrN s.tab ch a b m 1):=zhd fun h=>⟨fun _=>h,fun h2=>by omega⟩;have HY:Hid (pthT s.tab ch m a b≠[]→D=pthT s.tab ch m a b):=zhd fun h=>by
     have hd:disF s.tab ch a b m=pthT s.tab ch m a b:=by unfold disF;rw[if_neg h]
     rw[HFS.out m (by omega) HF.out (by rw[hd];exact h),hd]
    obtain ⟨Q,hQ⟩:=zn (pthT s.tab ch m a b);rw[←hQ]at KP HN HY;clear hQ;have b1:=RL.zc 0 rfl;have b2:=RL.zc 1 rfl;have bl:=RL.lt;go_wp2_with fail;refine (KP.out _ (ze wr _)).mono ?_;rintro _ w4 ⟨r4,rfl,hb4,hr4⟩;have hE4:=za (ze wr _) hb4;replace RL:=RL.ext hE4;have HS4:Hid (∃A,ScnV A w4 g s ch):=zhd ⟨A,hA.ext hE4⟩;replace ex:=za ex hE4;clear hb4 hE4 b1 b2 bl KP hA HSc;rcases hr4 with ⟨hQ0,rfl⟩ | ⟨hQ0,ra,rc,rfl,hi4⟩
    ·have HT2:=zhd (HN.out hQ0);clear hQ0 HN HY HT;go_wp2;go_roundw
     case rel=>exact ⟨1,by omega,by go_num,HT2,ex,RL,HS4⟩
     case measure=>simp[intOf]
    ·have hDQ:=HY.out hQ0;have RE:=zhd (show DR w4 (.tuple #[.slice ra Q.length rc,.bool true,.int .i64 0]) by
      have:=HY1.out w4 ra rc HDN.out (by rw[hDQ];exact hi4.mono fun _ _=>trivial);rw[hDQ]at this;exact this)
     clear hQ0 HN HY HT hi4 hDQ RL;go_wp2;go_ret3;exact .mk ex RE.out
   ·skip
    have KP:Hid (∀W,Below wr.heap.size wr W→Calls Tryz.prog 54 #[.pointer (some ⟨g,0,none⟩),b,a,m] W (Post W (PthR W.heap.size (pthT s.tab ch m b a)))):=zhd fun W hW=>HPP.out m (by omega) b a hbn han A W (hA.ext hW);have HN:Hid (pthT s.tab ch m b a=[]→TrN s.tab ch a b m 2):=zhd fun h=>⟨fun _=>HT.out.1 (by omega),fun _=>h⟩;have HY:Hid (pthT s.tab ch m b a≠[]→D=pthT s.tab ch m b a):=zhd fun h=>by
     have hd:disF s.tab ch a b m=pthT s.tab ch m b a:=by unfold disF;rw[if_pos (HT.out.1 (by omega))]
     rw[HFS.out m (by omega) HF.out (by rw[hd];exact h),hd]
    obtain ⟨Q,hQ⟩:=zn (pthT s.tab ch m b a);rw[←hQ]at KP HN HY;clear hQ;have b1:=RL.zc 2 rfl;have b2:=RL.zc 3 rfl;have bl:=RL.lt;go_wp2_with fail;refine (KP.out _ (ze wr _)).mono ?_;rintro _ w4 ⟨r4,rfl,hb4,hr4⟩;have hE4:=za (ze wr _) hb4;replace RL:=RL.ext hE4;have HS4:Hid (∃A,ScnV A w4 g s ch):=zhd ⟨A,hA.ext hE4⟩;replace ex:=za ex hE4;clear hb4 hE4 b1 b2 bl KP hA HSc;rcases hr4 with ⟨hQ0,rfl⟩ | ⟨hQ0,ra,rc,rfl,hi4⟩
    ·have HT2:=zhd (HN.out hQ0);clear hQ0 HN HY HT;go_wp2;go_roundw
     case rel=>exact ⟨2,by omega,by go_num,HT2,ex,RL,HS4⟩
     case measure=>simp[intOf]
    ·have hDQ:=HY.out hQ0;have RE:=zhd (show DR w4 (.tuple #[.slice ra Q.length rc,.bool true,.int .i64 0]) by
      have:=HY1.out w4 ra rc HDN.out (by rw[hDQ];exact hi4.mono fun _ _=>trivial);rw[hDQ]at this;exact this)
     clear hQ0 HN HY HT hi4 hDQ RL;go_wp2;go_ret3;exact .mk ex RE.out
   ·have HF2:Hid (∀i,i<m+1→disF s.tab ch a b i=[]):=zhd fun i hi=>by
     by_cases e:i=m
     ·subst e;unfold disF;rw[if_pos (HT.out.1 (by omega))];exact HT.out.2 (by omega)
     ·exact HF.out i (by omega)
    go_wp2;go_roundw
    case rel=>exact ⟨m+1,by omega,by go_num,HF2,ex,HSc⟩
    case measure=>simp[intOf];omega
end Go.Proofs.YtiabbjolepnjkaaGreat
