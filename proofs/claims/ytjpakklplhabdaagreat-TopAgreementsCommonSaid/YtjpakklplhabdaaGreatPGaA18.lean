/- Part of the proof that the laws answer true for every input. -/
import Derived.Test.YtjpakklplhabdaaGreatPGaA10
import Derived.Test.YtjpakklplhabdaaGreatPGaA17
set_option linter.unusedSimpArgs false
set_option linter.unnecessarySimpa false
set_option linter.unusedVariables false
set_option maxRecDepth 100000
set_option maxHeartbeats 40000000
namespace Go.Proofs.YtjpakklplhabdaaGreat
open Go.RowKit Go.Shelf
attribute [local go_sem ↓] Go.wp_at_zero Go.wp_at_succ
attribute [local go_sem] Oper.semAt_some
def sumF (st:Moves) (k:Nat) (pre:List (Nat×List Int)) (s:Nat):Nat:=((pre.filter fun x=>x.1==s).map fun x=>cntW st k (nth x.2 7).toNat).sum
theorem zdF (st:Moves) (k s:Nat):sumF st k [] s=0:=rfl
theorem zbT (st:Moves) (k:Nat) (pre:List (Nat×List Int)) (x:Nat×List Int) (s:Nat):sumF st k (pre++[x]) s=sumF st k pre s+if s=x.1 then cntW st k (nth x.2 7).toNat else 0:=by
 unfold sumF
 rw[List.filter_append,List.map_append,List.sum_append]
 congr 1
 by_cases h:s=x.1
 ·rw[if_pos h,h];simp
 ·rw[if_neg h]
  have:(x.1==s)=false:=by simp;exact fun e=>h e.symm
  simp[List.filter,this]
theorem Z6 (st:Moves) (k s:Nat):∀n,n≤st.length→sumF st k (pairsTo st n) s=if s<n then cntW st (k+1) s else 0
 | 0,_=>rfl
 | n+1,h=>by
  have ih:=Z6 st k s n (by omega)
  rw[yJ]
  unfold sumF at ih ⊢
  rw[List.filter_append,List.map_append,List.sum_append,ih]
  by_cases e:s=n
  ·subst e
   rw[if_neg (by omega),if_pos (by omega),Nat.zero_add,List.filter_eq_self.2 (by intro a ha;obtain ⟨m,_,rfl⟩:=List.mem_map.1 ha;simp),List.map_map]
   rfl
  ·have:(((nthM st n).map fun m=>(n,m)).filter fun x=>x.1==s)=[]:=by
    rw[List.filter_eq_nil_iff]
    intro a ha
    obtain ⟨m,_,rfl⟩:=List.mem_map.1 ha
    simp;omega
   rw[this]
   simp only[List.map_nil,List.sum_nil,Nat.add_zero]
   by_cases h1:s<n
   ·rw[if_pos h1,if_pos (by omega)]
   ·rw[if_neg h1,if_neg (by omega)]
def accL (st:Moves) (k L n:Nat) (pre:List (Nat×List Int)):List Int:=(List.range n).map fun s=>((min (sumF st k pre s) (L+1):Nat):Int)
theorem zdi (st:Moves) (k L n:Nat) (pre:List (Nat×List Int)):(accL st k L n pre).length=n:=by simp[accL]
theorem zde (st:Moves) (k L n:Nat):accL st k L n []=List.replicate n 0:=by
 apply List.ext_getElem (by simp[accL])
 intro i h1 h2
 simp[accL,zdF]
theorem zd1 {st:Moves} {k L n s:Nat} {pre:List (Nat×List Int)} (h:s<n):nth (accL st k L n pre) s=((min (sumF st k pre s) (L+1):Nat):Int):=by simp[nth,accL,h]
theorem zd0 (st:Moves) (k L:Nat):accL st k L st.length (pairsM st)=cntsL st (k+1) L st.length:=by
 unfold accL cntsL
 apply List.map_congr_left
 intro s hs
 rw[←yY,Z6 st k s _ (Nat.le_refl _),if_pos (List.mem_range.1 hs)]
 rfl
theorem zcM {st:Moves} {k L n:Nat} {pre:List (Nat×List Int)} {x:Nat×List Int} {v:Nat} (hx:x.1<n) (hv:v=min (min (sumF st k pre x.1) (L+1)+cutW st k L (nth x.2 7).toNat) (L+1)):(accL st k L n pre).set x.1 (v:Int)=accL st k L n (pre++[x]):=by
 apply List.ext_getElem (by simp[accL])
 intro i h1 h2
 rw[List.getElem_set]
 simp only[accL,List.getElem_map,List.getElem_range,zbT]
 by_cases e:x.1=i
 ·subst e
  rw[if_pos rfl,if_pos rfl,hv]
  unfold cutW
  rw[zck]
 ·rw[if_neg e,if_neg (fun h=>e h.symm)];rfl
theorem OwnInts.low {w:World} {base base' n:Nat} {e:TypeId} {v:Value} {xs:List Value} {z:Nat} (h:w.ownsRow base e z v n xs) (hb:base'≤base):w.ownsRow base' e z v n xs:=by
 refine ⟨h.1,?_⟩
 rcases h.2 with hn | ⟨g,cap,cur,rfl,h1,h2,r⟩
 ·exact .inl hn
 ·exact .inr ⟨g,cap,cur,rfl,Nat.le_trans hb h1,h2,r⟩
theorem Cnts.agreeT {base:Nat} {T:Nat→Prop} {W W':World} {v:Value} {l:List Int} (h:Cnts base W v l) (hw:Agree T W W') (hT:∀g,v.ownBlock=some g→T g):Cnts base W' v l:=zO h hw hT
theorem Cnts.form {base:Nat} {W:World} {v:Value} {l:List Int} (h:Cnts base W v l):∃a c,v=.slice a l.length c∧c≤maxLen:=by
 rcases (h:W.ownsRow base 3 1 _ _ _).2 with ⟨rfl,h0⟩ | ⟨g,cap,cur,rfl,hb,hg,hnc,hcm,_⟩
 ·exact ⟨none,0,by rw[h0],by simp[maxLen]⟩
 ·exact ⟨_,cap,rfl,hcm⟩
theorem zbm {S:Nat→Prop} {w:World} {vs:Value} {st:Moves} (n:Int) (hs:Sl (kSl (kFlat 8)) S w vs st) (hok:MovesOK n st) (h1:1≤st.length) (hl:st.length≤1000) (K L:Nat) (hK:K≤6) (hL:L≤1048576):
  Calls Tryz.prog 95 #[.agg #[.int .i64 n,vs],.int .i64 K,.int .i64 L] w (Post w fun _ r=>r=.int .i64 (cutW st K L 0:Nat)):=by
 obtain ⟨sa,sc,rfl,hm⟩:=hs.addr
 have HS:=zhd hs.block
 have HOK:=zhd hok
 clear hs hok
 have ex:Below w.heap.size w (((w.alloc (.cells #[.int .i64 n,.slice sa st.length sc] 27)).alloc (.cells #[.int .i64 L] 3)).alloc (.cells #[.int .i64 1] 3)):=zg (zg (zb w _) _) _
 have RA:Row (((w.alloc (.cells #[.int .i64 n,.slice sa st.length sc] 27)).alloc (.cells #[.int .i64 L] 3)).alloc (.cells #[.int .i64 1] 3)) w.heap.size 27 [.int .i64 n,.slice sa st.length sc]:=((ze w [_,_] _).alloc _).alloc _
 have RL:Row (((w.alloc (.cells #[.int .i64 n,.slice sa st.length sc] 27)).alloc (.cells #[.int .i64 L] 3)).alloc (.cells #[.int .i64 1] 3)) (w.heap.size+1) 3 [.int .i64 L]:=by
  have:=(ze (w.alloc (.cells #[.int .i64 n,.slice sa st.length sc] 27)) [.int .i64 L] 3).alloc (.cells #[.int .i64 1] 3)
  rwa [World.size_alloc]at this
 have I1:=zdx ((w.alloc (.cells #[.int .i64 n,.slice sa st.length sc] 27)).alloc (.cells #[.int .i64 L] 3)) (w.heap.size+1+1) (by simp) [1] 3 (by decide) (by decide)
 have KR:=zhd (Xq I1 st.length (by omega))
 clear I1
 refine (callsIn_wide (n:=6)).1 ?_
 refine callsIn_of_wp_marks Tryz.func95 rfl trivial ?_ rfl
 simp only[Tryz.ntmps95,List.size_toArray,List.length_cons,List.length_nil,Nat.reduceAdd,Nat.reduceSub,Array.replicate_succ,Array.replicate_zero,List.push_toArray,List.append_toArray,List.nil_append,List.cons_append]
 refine wpIn_wide.2 ?_
 go_wp2_with fail
 refine KR.out.mono ?_
 rintro _ w1 ⟨cv,rfl,hb1,hcv⟩
 have hx1:=za ex hb1
 replace RA:=RA.ext hb1
 replace RL:=RL.ext hb1
 have HC:Cnts (w.heap.size+2) w1 cv (cntsL st 0 L st.length):=by
  unfold OwnInts at hcv
  unfold Cnts
  rw[Yn]
  exact OwnInts.low hcv (by simp)
 obtain ⟨ca,cc,rfl,_⟩:=HC.form
 rw[zE]at HC ⊢
 have hlt1:=hx1.size
 have hlA:=RA.lt
 have hlL:=RL.lt
 have RC:=ze w1 [.slice ca st.length cc] 30
 replace RA:=RA.alloc (.cells #[.slice ca st.length cc] 30)
 replace RL:=RL.alloc (.cells #[.slice ca st.length cc] 30)
 have hown:=HC.lt
 replace HC:=zhd (HC.ext (zb w1 (.cells #[.slice ca st.length cc] 30)))
 have hx2:=zg hx1 (.cells #[.slice ca st.length cc] 30)
 obtain ⟨CB,hCB⟩:∃CB,CB=w1.heap.size:=⟨_,rfl⟩
 have hne:∀g,(Value.slice ca st.length cc).ownBlock=some g→g≠CB:=fun g hg=>by have:=(hown g hg).2;omega
 have hCB2:w.heap.size+2≤CB:=by omega
 rw[←hCB]at RC
 clear ex hb1 hx1 hcv KR hlt1 hown hlA hlL
 go_wp2
 rw[←hCB]
 clear hCB
 refine wp_loop (fun a' wr=>∃(ds:List Deferred) (u8 u9 u10 u17 u18 u19 u20 u21 u22 u23 u26 u27 u28 u29 u30 u31 u32 u33 u34 u35 u36 u37 u38 u39 u40 u41 u42 u43:Value),(∃k:Nat,k≤K∧u17=.int .i64 k∧Below w.heap.size w wr∧Row wr w.heap.size 27 [.int .i64 n,.slice sa st.length sc]∧Row wr (w.heap.size+1) 3 [.int .i64 L]∧Marks w.heap.size wr ds∧∃a c,Row wr CB 30 [.slice a st.length c]∧Hid (Cnts (w.heap.size+2) wr (.slice a st.length c) (cntsL st k L st.length))∧∀g,(Value.slice a st.length c).ownBlock=some g→g≠CB)∧a'={tmps:=#[.agg #[.int .i64 n,.slice sa st.length sc],.int .i64 K,.int .i64 L,.pointer (some ⟨w.heap.size,0,none⟩),undef,.pointer (some ⟨w.heap.size+1,0,none⟩),.int .i64 0,.pointer (some ⟨CB,0,none⟩),u8,u9,u10,.slice (some ⟨w.heap.size+1+1,0,none⟩) 1 1,.pointer (some ⟨w.heap.size,1,none⟩),.slice sa st.length sc,.int .i64 st.length,.slice ca st.length cc,.int .i64 K,u17,u18,u19,u20,u21,u22,u23,undef,undef,u26,u27,u28,u29,u30,u31,u32,u33,u34,u35,u36,u37,u38,u39,u40,u41,u42,u43,undef,undef,undef],defers:=ds}) (fun a' _=>K - (intOf (a'.tmps.getD 17 undef)).toNat) ?_ ?_
 ·(repeat apply Exists.intro)
  refine ⟨?_,rfl⟩
  exact ⟨0,Nat.zero_le _,rfl,hx2,RA,RL,.nil _ _,_,_,RC,HC,hne⟩
 ·intro _ wr hinv
  obtain ⟨ds,u8,u9,u10,u17,u18,u19,u20,u21,u22,u23,u26,u27,u28,u29,u30,u31,u32,u33,u34,u35,u36,u37,u38,u39,u40,u41,u42,u43,hrel,ha⟩:=hinv
  subst ha
  clear hx2 RA RL RC HC hne
  obtain ⟨k,hk,rfl,hb,RA,RL,HM,va,vc,RC,HC,hne⟩:=hrel
  have HM:=zhd HM
  have c0:=RC.zc 0 rfl
  by_cases hkt:k<K
  case neg=>
   obtain rfl:k=K:=by omega
   have hci:∀W':World,(Instr.indexAt 30 (.slice va st.length vc) (.int .i64 0)).run Tryz.prog W'=.ok (.pointer (some (adr va 0))) W':=HC.out.idx (zE _ _ _ _).symm 0 (by rw[zE];omega)
   have hcc:=zY (HC.out.read (Ze hL)) (.refl _ _) 0 (by rw[zE];omega)
   have hcv:((cntsL st k L st.length).map (Value.int .i64)).getD 0 undef=.int .i64 (cutW st k L 0:Nat):=by
    rw[←xi (show 0<st.length by omega)]
    rw[List.getD_eq_getElem?_getD,List.getElem?_map,get?_nth (by rw[zE];omega)];rfl
   rw[hcv]at hcc
   have hbk:=World.block_lt_of_cell? _ _ hcc
   have hbk2:=RC.lt
   clear hcv
   go_wp2
   refine Zq (Q0 HM.out hb.size fun W' hbel _=>?_)
   exact ⟨.int .i64 (cutW st k L 0:Nat),by simp[results,Tryz.results95,go_sem],.mk (hb.trans hbel) rfl⟩
  obtain ⟨i0,hi,hz0,hz1,hz2⟩:=info_parts zC
  have hb2:w.heap.size+2≤wr.heap.size:=by have:=RC.lt;omega
  have hbk2:=RC.lt
  have a0:=RA.zc 0 rfl
  have a1:=RA.zc 1 rfl
  have hla:=RA.lt
  obtain ⟨wo,rfl⟩:∃wo:World,wo=wr:=⟨_,rfl⟩
  go_wp2_with (first | (at_make;refine wpList_make_full _ rfl _ _ 30 rfl (w.heap.size+2) 3 i0 (.int .i64 0) 1 Tryz.underlying30 hi hz0 hz1 .i64 .i64 _ _ st.length rfl rfl rfl rfl (by rw[hz2];omega) (by unfold maxLen;omega) hb2 ?_;intro w2 hown2 hgrow2;have hbw:Below wo.heap.size wo w2:=(Below.refl _ wo).grown hgrow2 (Nat.le_refl _) (fun j hj=>by cases hj);have RA2:=RA.ext hbw;have d0:=RA2.zc 0 rfl;have d1:=RA2.zc 1 rfl;have hla2:=RA2.lt;have KM:=zhd (qV (w2.alloc (.cells #[.slice (some ⟨wo.heap.size,0,none⟩) st.length st.length] 30)) n (.slice sa st.length sc) rfl rfl)) | fail)
  refine KM.out.mono ?_
  rintro _ _ ⟨rfl,rfl⟩
  have hmc:(madeCells #[Value.int .i64 0] (st.length * 1)).toList=(accL st k L st.length []).map (Value.int .i64):=by
   rw[Nat.mul_one,zde,List.map_replicate];exact (toList_madeCells_one _ _)
  have RN:=(Row.of_own hown2).1.get hmc
  have hs2:wo.heap.size<w2.heap.size:=RN.lt
  have hb3:Below wo.heap.size wo ((w2.alloc (.cells #[.slice (some ⟨wo.heap.size,0,none⟩) st.length st.length] 30)).alloc (.cells #[.int .i64 n,.slice sa st.length sc] 27)):=(hbw.alloc hbw.size _).alloc (by simp;omega) _
  have hx3:=za hb hb3
  have RNB:=(ze w2 [.slice (some ⟨wo.heap.size,0,none⟩) st.length st.length] 30).alloc (.cells #[.int .i64 n,.slice sa st.length sc] 27)
  have RB:=ze (w2.alloc (.cells #[.slice (some ⟨wo.heap.size,0,none⟩) st.length st.length] 30)) [.int .i64 n,.slice sa st.length sc] 27
  rw[World.size_alloc]at RB ⊢
  replace RN:=(RN.alloc (.cells #[.slice (some ⟨wo.heap.size,0,none⟩) st.length st.length] 30)).alloc (.cells #[.int .i64 n,.slice sa st.length sc] 27)
  have RA3:=RA.ext hb3
  have RL3:=RL.ext hb3
  have RC3:=RC.ext hb3
  have HM3:=zhd (HM.out.ext hb3)
  have HCL:=HC.out.lt
  have HC3:=zhd (HC.out.ext hb3)
  have hCBl:=RC.lt
  obtain ⟨NA,hNA⟩:∃NA,NA=wo.heap.size:=⟨_,rfl⟩
  obtain ⟨NB,hNB⟩:∃NB,NB=w2.heap.size:=⟨_,rfl⟩
  obtain ⟨w3,hw3⟩:∃w3,w3=(w2.alloc (.cells #[.slice (some ⟨wo.heap.size,0,none⟩) st.length st.length] 30)).alloc (.cells #[.int .i64 n,.slice sa st.length sc] 27):=⟨_,rfl⟩
  rw[←hw3]at hb3 hx3 RNB RB RN RA3 RL3 RC3 HM3 HC3 ⊢
  rw[←hNB]at RNB RB hs2 ⊢
  rw[←hNA]at RN RNB HCL hs2 hCBl ⊢
  have hwN:w.heap.size+2≤NA:=by omega
  have z3:=RB.lt
  have hHT:Hid (∀b,(b<w3.heap.size∧b≠NA)→b<w3.heap.size):=zhd fun b h=>h.1
  clear hw3 KM hmc hown2 hgrow2 hbw RA2 d0 d1 hla2 a0 a1 hla hbk2 c0 hi hz0 hz1 hz2 hNB hNA hb3 hb2 HC RA RL RC HM hb
  go_wp2
  refine wpIn_wide (n:=6).1 ?_
  have HST:=qU (Px:=fun x=>MoveOK n st x.2∧x.1<st.length) (T:=fun b=>b<w3.heap.size∧b≠NA) (n:=5) (by decide) RB (HS.out.ext hx3) ⟨by omega,by omega⟩ (fun b hb=>⟨by have:=hb.2;have:=hx3.size;omega,by have:=hb.2;omega⟩) hHT.out (fun k hk j hj=>⟨⟨((HOK.out k hk).2 j hj).1,((HOK.out k hk).2 j hj).2.1,((HOK.out k hk).2 j hj).2.2.1,((HOK.out k hk).2 j hj).2.2.2⟩,hk⟩)
  apply xT (n:=6) rfl (by decide) (gf:=140) (lb:=#[.pointer (some ⟨NB+1,0,none⟩)]) rfl trivial (enters_of Tryz.func140 (by kernel_rfl) rfl)
   HST xt (xr hHT.out) YO (fun _=>rfl)
   (fun (pre:List {x:Nat×List Int // MoveOK n st x.2∧x.1<st.length}) W=>Row W NA 3 ((accL st k L st.length (pre.map (·.1))).map (Value.int .i64))∧Agree (fun b=>b<w3.heap.size∧b≠NA) w3 W∧Below w.heap.size w W)
   (fun c (pre:List {x:Nat×List Int // MoveOK n st x.2∧x.1<st.length}) W=>False)
   (OwnFrom.and (qj (xs:=fun (pre:List {x:Nat×List Int // MoveOK n st x.2∧x.1<st.length})=>(accL st k L st.length (pre.map (·.1))).map (Value.int .i64)) (by omega)) (OwnFrom.and (Qb hHT.out) (ownFrom_below (Nat.le_refl _) hx3.size)))
   (fun c=>yt _) ⟨RN,.refl _ _,hx3⟩ (fun x=>.cells #[.int .i64 (nth x.1.2 0),.int .i64 (nth x.1.2 1),.int .i64 (nth x.1.2 2),.int .i64 (nth x.1.2 3),.int .i64 (nth x.1.2 4),.int .i64 (nth x.1.2 5),.int .i64 (nth x.1.2 6),.int .i64 (nth x.1.2 7)] 69)
  case hassign=>
   intro l x W g K hgW hK
   unfold mL
   gi_wp2
   rw[←hgW]
   exact hK
  case hbody=>
   rintro l pre ⟨⟨s,m⟩,hpx⟩ W ⟨hR,hA,hBW⟩ hsW hlen
   dsimp only at hpx ⊢
   have hpx2:=hpx
   obtain ⟨⟨hm1,hm2,hm3,hm4⟩,hms⟩:=hpx2
   have cell0:∀(b j:Nat) (e:TypeId) (xs:List Value) (u:Value),Row w3 b e xs→b≠NA→xs[j]? =some u→(W.alloc (.cells #[.int .i64 (nth m 0),.int .i64 (nth m 1),.int .i64 (nth m 2),.int .i64 (nth m 3),.int .i64 (nth m 4),.int .i64 (nth m 5),.int .i64 (nth m 6),.int .i64 (nth m 7)] 69)).cell? ⟨b,j,none⟩=some u:=fun b j e xs u hb hne hu=>((hb.agree hA ⟨hb.lt,hne⟩).alloc _).cell hu
   have f1:=cell0 NB 0 _ _ _ RNB (by omega) rfl
   have f2:=cell0 CB 0 _ _ _ RC3 (by omega) rfl
   have f3:=cell0 (w.heap.size+1) 0 _ _ _ RL3 (by omega) rfl
   have RM:=ze W [.int .i64 (nth m 0),.int .i64 (nth m 1),.int .i64 (nth m 2),.int .i64 (nth m 3),.int .i64 (nth m 4),.int .i64 (nth m 5),.int .i64 (nth m 6),.int .i64 (nth m 7)] 69
   obtain ⟨to,hto⟩:∃t:Nat,nth m 7=t:=⟨(nth m 7).toNat,by omega⟩
   have f4:=RM.cell (j:=7) (u:=.int .i64 to) (by rw[←hto];rfl)
   rw[hto]at hm3 hm4
   have hal:=zdi st k L st.length (pre.map (·.1))
   have R0:=hR.alloc (.cells #[.int .i64 (nth m 0),.int .i64 (nth m 1),.int .i64 (nth m 2),.int .i64 (nth m 3),.int .i64 (nth m 4),.int .i64 (nth m 5),.int .i64 (nth m 6),.int .i64 (nth m 7)] 69)
   obtain ⟨x,hx⟩:∃x,x=min (sumF st k (pre.map (·.1)) s) (L+1):=⟨_,rfl⟩
   have f5:=R0.cell (j:=s) (u:=.int .i64 x) (by rw[List.getElem?_map,get?_nth (by rw[hal];exact hms),zd1 hms,hx];rfl)
   have f7:=R0.free s
   have f8:=R0.lt
   have HCW:=(HC3.out.agreeT hA (fun g hg=>⟨by have:=(HC3.out.lt g hg).2;omega,by have:=(HCL g hg).2;omega⟩)).ext (zb W (.cells #[.int .i64 (nth m 0),.int .i64 (nth m 1),.int .i64 (nth m 2),.int .i64 (nth m 3),.int .i64 (nth m 4),.int .i64 (nth m 5),.int .i64 (nth m 6),.int .i64 (nth m 7)] 69))
   have htl:to<st.length:=by omega
   obtain ⟨y,hy⟩:∃y,y=cutW st k L to:=⟨_,rfl⟩
   have f6:=zY (HCW.read (Ze hL)) (.refl _ _) to (by rw[zE];exact htl)
   have hcv:((cntsL st k L st.length).map (Value.int .i64)).getD to undef=.int .i64 (y:Nat):=by
    rw[hy,←xi htl,List.getD_eq_getElem?_getD,List.getElem?_map,get?_nth (by rw[zE];exact htl)];rfl
   rw[hcv]at f6
   have q1:∀W':World,(Instr.indexAt 30 (.slice va st.length vc) (.int .i64 to)).run Tryz.prog W'=.ok (.pointer (some (adr va to))) W':=HCW.idx (zE _ _ _ _).symm to (by rw[zE];exact htl)
   have q2:∀W':World,(Instr.indexAt 30 (.slice (some ⟨NA,0,none⟩) st.length st.length) (.int .i64 s)).run Tryz.prog W'=.ok (.pointer (some ⟨NA,s,none⟩)) W':=by
    obtain ⟨i,hi,_,h1,_⟩:=info_parts zC
    have:=zz (P:=Tryz.prog) (S:=fun _=>True) (w:=w3) Tryz.underlying30 hi h1 (a:=some ⟨NA,0,none⟩) (n:=st.length) (cap:=st.length) (.inr ⟨NA,0,rfl,by omega,trivial⟩) s hms
    rw[zZ,Nat.zero_add]at this
    exact this
   have hxl:x≤L+1:=by rw[hx];exact Nat.min_le_right _ _
   have hyl:y≤L+1:=by rw[hy];exact ZN _ _ _ _
   have hw1:IntKind.i64.wrap ((x:Int)+(y:Int))=((x+y:Nat):Int):=by rw[IntKind.wrap_i64];omega
   have hw2:IntKind.i64.wrap ((L:Int)+1)=((L+1:Nat):Int):=by rw[IntKind.wrap_i64];omega
   have FIN:Hid (∀(W':World) (v:Int),W'=((W.alloc (.cells #[.int .i64 (nth m 0),.int .i64 (nth m 1),.int .i64 (nth m 2),.int .i64 (nth m 3),.int .i64 (nth m 4),.int .i64 (nth m 5),.int .i64 (nth m 6),.int .i64 (nth m 7)] 69)).setCell ⟨NA,s,none⟩ (.int .i64 v)).drew→v=(min (x+y) (L+1):Nat)→KeepsOthers (W.alloc (.cells #[.int .i64 (nth m 0),.int .i64 (nth m 1),.int .i64 (nth m 2),.int .i64 (nth m 3),.int .i64 (nth m 4),.int .i64 (nth m 5),.int .i64 (nth m 6),.int .i64 (nth m 7)] 69)) W'∧Agree (fun b=>b<w3.heap.size∧b≠NA) (W.alloc (.cells #[.int .i64 (nth m 0),.int .i64 (nth m 1),.int .i64 (nth m 2),.int .i64 (nth m 3),.int .i64 (nth m 4),.int .i64 (nth m 5),.int .i64 (nth m 6),.int .i64 (nth m 7)] 69)) W'∧Row W' NA 3 ((accL st k L st.length ((pre++[(⟨(s,m),hpx⟩:{x:Nat×List Int // MoveOK n st x.2∧x.1<st.length})]).map (·.1))).map (Value.int .i64))∧Agree (fun b=>b<w3.heap.size∧b≠NA) w3 W'∧Below w.heap.size w W'):=zhd fun W' v hW hv=>by
    subst hW hv
    have hag:=(Agree.of_grown (zj (W.alloc (.cells #[.int .i64 (nth m 0),.int .i64 (nth m 1),.int .i64 (nth m 2),.int .i64 (nth m 3),.int .i64 (nth m 4),.int .i64 (nth m 5),.int .i64 (nth m 6),.int .i64 (nth m 7)] 69)) NA s (.int .i64 ((min (x+y) (L+1):Nat):Int))) (S:=fun b=>b<w3.heap.size∧b≠NA) fun b hb e=>by cases e;exact hb.2 rfl)
    refine ⟨KeepsOthers.trans (.setCell _ _ _) (yU (zh _ _ 1)),hag.trans (zq _ _ 1),?_,(hA.alloc _).trans (hag.trans (zq _ _ 1)),((hBW.alloc hBW.size _).setCell (by simp;omega) _).trans (zh _ _ 1)⟩
    have hset:=(R0.set s (.int .i64 ((min (x+y) (L+1):Nat):Int))).agree (S:=fun _=>True) (zq _ _ 1) trivial
    rw[←List.map_set,zcM (x:=(s,m)) hms (by rw[hx,hy];unfold cutW;dsimp only;rw[hto,Int.toNat_natCast])]at hset
    rw[List.map_append]
    exact hset
   obtain ⟨g,hg⟩:∃g,g=W.heap.size:=⟨_,rfl⟩
   obtain ⟨W0,hW0⟩:∃W0,W0=W.alloc (.cells #[.int .i64 (nth m 0),.int .i64 (nth m 1),.int .i64 (nth m 2),.int .i64 (nth m 3),.int .i64 (nth m 4),.int .i64 (nth m 5),.int .i64 (nth m 6),.int .i64 (nth m 7)] 69):=⟨_,rfl⟩
   rw[←hg]at f4 ⊢
   rw[←hW0]at f1 f2 f3 f4 f5 f6 f7 f8 FIN ⊢
   clear cell0 RM hR hA hBW hal R0 HCW hcv hx hy hto hg hW0 hm1 hm2 hm3 hm4 HST
   gi_wp2
   refine Z4 (fun w':World=>w'.cell? ⟨NB,0,none⟩=some (.slice (some ⟨NA,0,none⟩) st.length st.length)∧w'.cell? ⟨CB,0,none⟩=some (.slice va st.length vc)∧w'.cell? ⟨w.heap.size+1,0,none⟩=some (.int .i64 L)∧w'.cell? ⟨g,7,none⟩=some (.int .i64 to)∧w'.cell? ⟨NA,s,none⟩=some (.int .i64 x)∧w'.cell? (adr va to)=some (.int .i64 y)∧w'.frozen? ⟨NA,s,none⟩=false∧NA<w'.heap.size) (fun i=>i==16) (by kernel_rfl) (by kernel_rfl) (by rintro ⟨_,_,h⟩;exact h) ?_ (fun hHeld=>?_)
   ·exact ⟨f1,f2,f3,f4,f5,f6,f7,f8⟩
   refine anyE_take 0 (v:=?_) rfl (by kernel_rfl) (fun _ _ _ h=>h) (by rfl) ?hy0 hHeld ?r0
   case hy0=>(intro w hSw;(try dsimp only at hSw);go_simp;try with_reducible rfl)
   try simp only[Act.put,zsa,zsz,zss]
   refine anyE_take 1 (v:=?_) rfl (by kernel_rfl) (fun _ _ _ h=>h) (by rfl) ?hy1 hHeld ?r1
   case hy1=>(intro w hSw;(try dsimp only at hSw);go_simp;try with_reducible rfl)
   try simp only[Act.put,zsa,zsz,zss]
   refine anyE_take 2 (v:=?_) rfl (by kernel_rfl) (fun _ _ _ h=>h) (by rfl) ?hy2 hHeld ?r2
   case hy2=>(intro w hSw;(try dsimp only at hSw);go_simp;try with_reducible rfl)
   try simp only[Act.put,zsa,zsz,zss]
   refine anyE_take 3 (v:=?_) rfl (by kernel_rfl) (fun _ _ _ h=>h) (by rfl) ?hy3 hHeld ?r3
   case hy3=>(intro w hSw;(try dsimp only at hSw);go_simp;try with_reducible rfl)
   try simp only[Act.put,zsa,zsz,zss]
   refine anyE_take 4 (v:=?_) rfl (by kernel_rfl) (fun _ _ _ h=>h) (by rfl) ?hy4 hHeld ?r4
   case hy4=>(intro w hSw;(try dsimp only at hSw);go_simp;try with_reducible rfl)
   try simp only[Act.put,zsa,zsz,zss]
   refine anyE_take 5 (v:=?_) rfl (by kernel_rfl) (fun _ _ _ h=>h) (by rfl) ?hy5 hHeld ?r5
   case hy5=>(intro w hSw;(try dsimp only at hSw);go_simp;try with_reducible rfl)
   try simp only[Act.put,zsa,zsz,zss]
   refine anyE_take 6 (v:=?_) rfl (by kernel_rfl) (fun _ _ _ h=>h) (by rfl) ?hy6 hHeld ?r6
   case hy6=>(intro w hSw;(try dsimp only at hSw);go_simp;try with_reducible rfl)
   try simp only[Act.put,zsa,zsz,zss]
   refine anyE_take 7 (v:=?_) rfl (by kernel_rfl) (fun _ _ _ h=>h) (by rfl) ?hy7 hHeld ?r7
   case hy7=>(intro w hSw;(try dsimp only at hSw);go_simp;try with_reducible rfl)
   try simp only[Act.put,zsa,zsz,zss]
   refine anyE_take 8 (v:=?_) rfl (by kernel_rfl) (fun _ _ _ h=>h) (by rfl) ?hy8 hHeld ?r8
   case hy8=>(intro w hSw;(try dsimp only at hSw);go_simp;try with_reducible rfl)
   try simp only[Act.put,zsa,zsz,zss]
   refine anyE_take 9 (v:=?_) rfl (by kernel_rfl) (fun _ _ _ h=>h) (by rfl) ?hy9 hHeld ?r9
   case hy9=>(intro w hSw;(try dsimp only at hSw);go_simp;try with_reducible rfl)
   try simp only[Act.put,zsa,zsz,zss]
   refine anyE_take 10 (v:=?_) rfl (by kernel_rfl) (fun _ _ _ h=>h) (by rfl) ?hy10 hHeld ?r10
   case hy10=>(intro w hSw;(try dsimp only at hSw);go_simp;try with_reducible rfl)
   try simp only[Act.put,zsa,zsz,zss]
   refine anyE_take 11 (v:=?_) rfl (by kernel_rfl) (fun _ _ _ h=>h) (by rfl) ?hy11 hHeld ?r11
   case hy11=>(intro w hSw;(try dsimp only at hSw);go_simp;try with_reducible rfl)
   try simp only[Act.put,zsa,zsz,zss]
   refine anyE_take 12 (v:=?_) rfl (by kernel_rfl) (fun _ _ _ h=>h) (by rfl) ?hy12 hHeld ?r12
   case hy12=>(intro w hSw;(try dsimp only at hSw);go_simp;try with_reducible rfl)
   try simp only[Act.put,zsa,zsz,zss]
   refine anyE_take 13 (v:=?_) rfl (by kernel_rfl) (fun _ _ _ h=>h) (by rfl) ?hy13 hHeld ?r13
   case hy13=>(intro w hSw;(try dsimp only at hSw);go_simp;try with_reducible rfl)
   try simp only[Act.put,zsa,zsz,zss]
   refine anyE_take 14 (v:=?_) rfl (by kernel_rfl) (fun _ _ _ h=>h) (by rfl) ?hy14 hHeld ?r14
   case hy14=>(intro w hSw;(try dsimp only at hSw);go_simp;try with_reducible rfl)
   try simp only[Act.put,zsa,zsz,zss]
   refine anyE_take 15 (v:=?_) rfl (by kernel_rfl) (fun _ _ _ h=>h) (by rfl) ?hy15 hHeld ?r15
   case hy15=>(intro w hSw;(try dsimp only at hSw);go_simp;try with_reducible rfl)
   try simp only[Act.put,zsa,zsz,zss]
   refine anyE_one 16 rfl (by kernel_rfl) (fun K hK=>?_)
   go_simp
   refine hK.out _ _ (fun h=>by simp at h) (fun hHeld=>?_)
   clear hK K
   try simp only[Act.put,zsa,zsz,zss]
   refine zy (by kernel_rfl) ?_ _
   gi_wp2
   all_goals exact FIN.out _ _ rfl (by omega)
  case hstop=>intros;contradiction
  case hdone=>
   rintro D xs W hD hS ⟨hR,hA,hBW⟩ hK
   rw[hS,zd0]at hR
   have P1:=RNB.agree hA ⟨by omega,by omega⟩
   have PA:=RA3.agree hA ⟨RA3.lt,by omega⟩
   have PL:=RL3.agree hA ⟨RL3.lt,by omega⟩
   have PC:=RC3.agree hA ⟨RC3.lt,by omega⟩
   have c0:=P1.zc 0 rfl
   have c1:=PC.zc 0 rfl
   have c2:=PC.free 0
   have c3:=PC.lt
   have HMW:=HM3.out.agree hA (fun D hD=>⟨(Array.getElem?_eq_some_iff.1 hD).1,fun e=>by have:=RN;unfold Row at this;rw[e]at hD;rw[hD]at this;cases this⟩)
   have HMC:=(HM3.out.cons (D:=D) HMW hD (by have:=hx3.size;omega) hK).set
   have HW:Hid (∀W',W'=W.setCell ⟨CB,0,none⟩ (.slice (some ⟨NA,0,none⟩) st.length st.length)→Below w.heap.size w W'∧Row W' w.heap.size 27 [.int .i64 n,.slice sa st.length sc]∧Row W' (w.heap.size+1) 3 [.int .i64 L]∧Marks w.heap.size W' ({target:=.collected D,args:=#[]}::ds)∧Row W' CB 30 [.slice (some ⟨NA,0,none⟩) st.length st.length]∧Hid (Cnts (w.heap.size+2) W' (.slice (some ⟨NA,0,none⟩) st.length st.length) (cntsL st (k+1) L st.length))∧∀g,(Value.slice (some ⟨NA,0,none⟩) st.length st.length).ownBlock=some g→g≠CB):=zhd fun W' hW=>by
    subst hW
    have hgr:=zj W CB 0 (.slice (some ⟨NA,0,none⟩) st.length st.length)
    refine ⟨hBW.setCell (by simp;omega) _,PA.grown hgr (by simp;omega),PL.grown hgr (by simp;omega),HMC _ _,PC.set 0 _,zhd ?_,fun g hg=>by simp[Value.ownBlock]at hg;omega⟩
    have hO:=(hR.grown hgr (by simp;omega)).owns (base:=w.heap.size+2) (by omega) (by simp[zE,maxLen];omega)
    rw[List.length_map,zE]at hO
    unfold Cnts
    rw[zE]
    exact hO
   clear P1 PA PL PC hBW HMW HMC hR hA hS RNB RB RN RA3 RL3 RC3 HM3 HC3
   go_wp2
   refine ⟨?rel,?measure⟩
   case rel=>
    obtain ⟨g1,g2,g3,g4,g5,g6,g7⟩:=HW.out _ rfl
    (repeat apply Exists.intro)
    refine ⟨?hr,?he⟩
    case he=>repeat' (first | exact rfl | apply And.intro)
    exact ⟨k+1,by omega,by go_num,g1,g2,g3,g4,_,_,g5,g6,g7⟩
   case measure=>simp[intOf];omega
end Go.Proofs.YtjpakklplhabdaaGreat
namespace Go.Proofs.YtjpakklplhabdaaGreat
open Go.RowKit
attribute [local go_sem ↓] Go.wp_at_zero Go.wp_at_succ
theorem ZF {st:Moves} {k L s:Nat}:(L<cutW st k L s)↔L<cntW st k s:=by unfold cutW;omega
theorem X8 {st:Moves} {k L s:Nat} (h:¬L<cntW st k s):cutW st k L s=cntW st k s:=by unfold cutW;omega
theorem zU {n ins outs:Int} {l:List CaseD} (h:checkT n ins outs l=0):1≤n∧n≤5∧1≤ins∧ins≤8∧1≤outs∧outs≤8∧1≤l.length∧l.length≤1024∧∀k,k<l.length→caseE n ins outs l k=0:=by
 unfold checkT at h
 by_cases h1:n<1∨5<n∨ins<1∨8<ins∨outs<1∨8<outs
 ·rw[if_pos h1]at h;cases h
 ·rw[if_neg h1]at h
  by_cases h2:l.length<1∨1024<l.length
  ·rw[if_pos h2]at h;cases h
  ·rw[if_neg h2]at h
   exact ⟨by omega,by omega,by omega,by omega,by omega,by omega,by omega,by omega,zX.1 h⟩
def numR (st:Moves) (K L:Nat):Value:=if L<cntW st K 0 then .tuple #[.int .i64 0,.int .i64 17] else .tuple #[.int .i64 (cntW st K 0:Nat),.int .i64 0]
theorem xj {S:Nat→Prop} {w:World} {vs:Value} {st:Moves} (n:Int) (hs:Sl (kSl (kFlat 8)) S w vs st) (hz:checkA n st=0) (K L:Nat) (hK:K≤6) (hL:L≤1048576):
  Calls Tryz.prog 56 #[.agg #[.int .i64 n,vs],.int .i64 K,.int .i64 L] w (Post w fun _ r=>r=numR st K L):=by
 obtain ⟨_,_,hl1,hl2,_,hok,_⟩:=qo hz
 obtain ⟨sa,sc,rfl,hm⟩:=hs.addr
 have KC:Hid (∀W,Below w.heap.size w W→Calls Tryz.prog 94 #[.agg #[.int .i64 n,.slice sa st.length sc]] W (Post W fun _ r=>r=.int .i64 0)):=zhd fun W hW=>by rw[←hz];exact xg n (hs.ext hW) (by omega)
 have KN:Hid (∀W,Below w.heap.size w W→Calls Tryz.prog 95 #[.agg #[.int .i64 n,.slice sa st.length sc],.int .i64 K,.int .i64 L] W (Post W fun _ r=>r=.int .i64 (cutW st K L 0:Nat))):=zhd fun W hW=>zbm n (hs.ext hW) hok hl1 (by omega) K L hK hL
 have HR:Hid ((L<cutW st K L 0→numR st K L=.tuple #[.int .i64 0,.int .i64 17])∧(¬L<cutW st K L 0→numR st K L=.tuple #[.int .i64 (cutW st K L 0:Nat),.int .i64 0])):=zhd ⟨fun h=>by unfold numR;rw[if_pos (ZF.1 h)],fun h=>by unfold numR;rw[if_neg (fun h'=>h (ZF.2 h')),X8 (fun h'=>h (ZF.2 h'))]⟩
 obtain ⟨x,hx⟩:∃x,x=cutW st K L 0:=⟨_,rfl⟩
 rw[←hx]at KN HR
 obtain ⟨r,hr⟩:∃r,r=numR st K L:=⟨_,rfl⟩
 rw[←hr]at HR ⊢
 have hxl:x≤L+1:=by rw[hx];exact ZN _ _ _ _
 clear hx hr hs hz hok hl1 hl2
 have ex:=zb w (.cells #[.int .i64 n,.slice sa st.length sc] 27)
 have R:Row (w.alloc (.cells #[.int .i64 n,.slice sa st.length sc] 27)) w.heap.size 27 [.int .i64 n,.slice sa st.length sc]:=ze w [_,_] _
 have g1:decide ((K:Int)<0)=false:=decide_eq_false (by omega)
 have g2:decide (6<(K:Int))=false:=decide_eq_false (by omega)
 go_enter Tryz.func56,Tryz.ntmps56
 go_wp2_with fail
 refine (KC.out _ ex).mono ?_
 rintro _ w1 ⟨_,rfl,hb1,rfl⟩
 replace R:=R.ext hb1
 replace ex:=za ex hb1
 have t0:=R.zc 0 rfl
 have t1:=R.zc 1 rfl
 clear hb1
 go_wp2_with fail
 refine (KN.out _ ex).mono ?_
 rintro _ w2 ⟨_,rfl,hb2,rfl⟩
 replace ex:=za ex hb2
 clear hb2 t0 t1 R KN KC
 by_cases hg:L<x
 ·have RR:=zhd (HR.out.1 hg)
  go_wp2
  go_ret2
  exact .mk ex RR.out.symm
 ·have RR:=zhd (HR.out.2 hg)
  go_wp2
  go_ret2
  exact .mk ex RR.out.symm
theorem QI {S:Nat→Prop} {w:World} {vs:Value} {st:Moves} (n:Int) (hs:Sl (kSl (kFlat 8)) S w vs st) (hz:checkA n st=0) (K:Nat) (hK:K≤6):
  Calls Tryz.prog 55 #[.agg #[.int .i64 n,vs],.int .i64 K] w (Post w fun _ r=>r=numR st K 1048576):=by
 obtain ⟨sa,sc,rfl,hm⟩:=hs.addr
 have ex:=zb w (.cells #[.int .i64 n,.slice sa st.length sc] 27)
 have KC:Hid (Calls Tryz.prog 56 #[.agg #[.int .i64 n,.slice sa st.length sc],.int .i64 K,.int .i64 1048576] (w.alloc (.cells #[.int .i64 n,.slice sa st.length sc] 27)) (Post (w.alloc (.cells #[.int .i64 n,.slice sa st.length sc] 27)) fun _ r=>∃a b:Int,r=.tuple #[.int .i64 a,.int .i64 b]∧numR st K 1048576=.tuple #[.int .i64 a,.int .i64 b])):=zhd ((xj n (hs.ext ex) hz K 1048576 hK (by omega)).mono fun _ _ h=>h.imp fun W r hr=>by
  subst hr
  unfold numR
  split
  ·exact ⟨_,_,rfl,rfl⟩
  ·exact ⟨_,_,rfl,rfl⟩)
 clear hs hz
 go_enter Tryz.func55,Tryz.ntmps55
 go_wp2_with fail
 refine KC.out.mono ?_
 rintro _ w1 ⟨_,rfl,hb1,a,b,rfl,hr⟩
 have HR:=zhd hr
 clear hr KC
 go_wp2
 go_ret2
 exact .mk (za ex hb1) HR.out.symm
theorem xh {S S':Nat→Prop} {w:World} {vc vs:Value} {p:ProbD} (hc:Sl kCase S w vc p.cs) (hs:Sl (kSl (kFlat 8)) S' w vs p.st) (hz:checkPr p=0) (L:Nat) (hL:L≤1048576):
  Calls Tryz.prog 77 #[.agg #[.int .i64 p.n,.int .i64 p.ins,.int .i64 p.outs,vc,.int .i64 p.an,vs,.int .i64 p.rounds],.int .i64 L] w (Post w fun _ r=>r=.int .i64 (p.cs.length * cutW p.st p.rounds.toNat L 0:Nat)):=by
 obtain ⟨h1,h2,h3,h4,h5⟩:=yd hz
 obtain ⟨_,_,hl1,hl2,_,hok,_⟩:=qo h2
 have hcl:=(zU h1).2.2.2.2.2.2.2.1
 obtain ⟨ca,cc,rfl,_⟩:=hc.form
 obtain ⟨sa,sc,rfl,_⟩:=hs.form
 obtain ⟨k,hk⟩:∃k:Nat,p.rounds=k:=⟨p.rounds.toNat,by omega⟩
 have KN:Hid (∀W,Below w.heap.size w W→Calls Tryz.prog 105 #[.agg #[.int .i64 p.an,.slice sa p.st.length sc],.int .i64 p.rounds,.int .i64 L] W (Post W fun _ r=>r=.int .i64 (cutW p.st p.rounds.toNat L 0:Nat))):=zhd fun W hW=>by rw[hk];exact zba p.an (hs.ext hW) hok hl1 (by omega) k L (by omega) hL
 have ex:=zb w (.cells #[.int .i64 p.n,.int .i64 p.ins,.int .i64 p.outs,.slice ca p.cs.length cc,.int .i64 p.an,.slice sa p.st.length sc,.int .i64 p.rounds] 29)
 have R:Row (w.alloc (.cells #[.int .i64 p.n,.int .i64 p.ins,.int .i64 p.outs,.slice ca p.cs.length cc,.int .i64 p.an,.slice sa p.st.length sc,.int .i64 p.rounds] 29)) w.heap.size 29 [.int .i64 p.n,.int .i64 p.ins,.int .i64 p.outs,.slice ca p.cs.length cc,.int .i64 p.an,.slice sa p.st.length sc,.int .i64 p.rounds]:=ze w [_,_,_,_,_,_,_] _
 obtain ⟨x,hx⟩:∃x,x=cutW p.st p.rounds.toNat L 0:=⟨_,rfl⟩
 rw[←hx]at KN ⊢
 have hxl:x≤L+1:=by rw[hx];exact ZN _ _ _ _
 have hmul:p.cs.length * x≤1024 * 1048577:=Nat.mul_le_mul hcl (by omega)
 have hw:IntKind.i64.wrap ((p.cs.length:Int) * (x:Int))=((p.cs.length * x:Nat):Int):=by rw[IntKind.wrap_i64];push_cast;omega
 clear hx hs hc hz h1 h2 h3 h4 h5 hk hok hl1 hl2 hcl
 have KEEP:Hid (∀W,Below (w.alloc (.cells #[.int .i64 p.n,.int .i64 p.ins,.int .i64 p.outs,.slice ca p.cs.length cc,.int .i64 p.an,.slice sa p.st.length sc,.int .i64 p.rounds] 29)).heap.size (w.alloc (.cells #[.int .i64 p.n,.int .i64 p.ins,.int .i64 p.outs,.slice ca p.cs.length cc,.int .i64 p.an,.slice sa p.st.length sc,.int .i64 p.rounds] 29)) W→W.cell? ⟨w.heap.size,3,none⟩=some (.slice ca p.cs.length cc)∧W.cell? ⟨w.heap.size,4,none⟩=some (.int .i64 p.an)∧W.cell? ⟨w.heap.size,5,none⟩=some (.slice sa p.st.length sc)∧W.cell? ⟨w.heap.size,6,none⟩=some (.int .i64 p.rounds)):=zhd fun W hW=>⟨(R.ext hW).zc 3 rfl,(R.ext hW).zc 4 rfl,(R.ext hW).zc 5 rfl,(R.ext hW).zc 6 rfl⟩
 go_enter Tryz.func77,Tryz.ntmps77
 go_wp2
 refine zH (fun w':World=>w'.cell? ⟨w.heap.size,3,none⟩=some (.slice ca p.cs.length cc)∧w'.cell? ⟨w.heap.size,4,none⟩=some (.int .i64 p.an)∧w'.cell? ⟨w.heap.size,5,none⟩=some (.slice sa p.st.length sc)∧w'.cell? ⟨w.heap.size,6,none⟩=some (.int .i64 p.rounds)) (fun i=>false) (by kernel_rfl) ?_ (fun hHeld=>?_)
 ·exact KEEP.out _ (zh _ _ 1)
 refine anyE_take 0 (v:=?_) rfl (by kernel_rfl) (fun _ _ _ h=>h) (by rfl) ?hy0 hHeld ?r0
 case hy0=>(intro w hSw;(try dsimp only at hSw);go_simp;try with_reducible rfl)
 try simp only[Act.put,zsa,zsz,zss]
 refine anyE_take 1 (v:=?_) rfl (by kernel_rfl) (fun _ _ _ h=>h) (by rfl) ?hy1 hHeld ?r1
 case hy1=>(intro w hSw;(try dsimp only at hSw);go_simp;try with_reducible rfl)
 try simp only[Act.put,zsa,zsz,zss]
 refine anyE_take 2 (v:=?_) rfl (by kernel_rfl) (fun _ _ _ h=>h) (by rfl) ?hy2 hHeld ?r2
 case hy2=>(intro w hSw;(try dsimp only at hSw);go_simp;try with_reducible rfl)
 try simp only[Act.put,zsa,zsz,zss]
 refine anyE_take 3 (v:=?_) rfl (by kernel_rfl) (fun _ _ _ h=>h) (by rfl) ?hy3 hHeld ?r3
 case hy3=>(intro w hSw;(try dsimp only at hSw);go_simp;try with_reducible rfl)
 try simp only[Act.put,zsa,zsz,zss]
 refine anyE_take 4 (v:=?_) rfl (by kernel_rfl) (fun _ _ _ h=>h) (by rfl) ?hy4 hHeld ?r4
 case hy4=>(intro w hSw;(try dsimp only at hSw);go_simp;try with_reducible rfl)
 try simp only[Act.put,zsa,zsz,zss]
 refine anyE_take 5 (v:=?_) rfl (by kernel_rfl) (fun _ _ _ h=>h) (by rfl) ?hy5 hHeld ?r5
 case hy5=>(intro w hSw;(try dsimp only at hSw);go_simp;try with_reducible rfl)
 try simp only[Act.put,zsa,zsz,zss]
 refine anyE_take 6 (v:=?_) rfl (by kernel_rfl) (fun _ _ _ h=>h) (by rfl) ?hy6 hHeld ?r6
 case hy6=>(intro w hSw;(try dsimp only at hSw);go_simp;try with_reducible rfl)
 try simp only[Act.put,zsa,zsz,zss]
 refine anyE_take 7 (v:=?_) rfl (by kernel_rfl) (fun _ _ _ h=>h) (by rfl) ?hy7 hHeld ?r7
 case hy7=>(intro w hSw;(try dsimp only at hSw);go_simp;try with_reducible rfl)
 try simp only[Act.put,zsa,zsz,zss]
 refine anyE_take 8 (v:=?_) rfl (by kernel_rfl) (fun _ _ _ h=>h) (by rfl) ?hy8 hHeld ?r8
 case hy8=>(intro w hSw;(try dsimp only at hSw);go_simp;try with_reducible rfl)
 try simp only[Act.put,zsa,zsz,zss]
 refine anyE_one 9 rfl (by kernel_rfl) (fun K hK=>?_)
 go_simp;go_at_call 105;refine (KN.out _ (zx ex 1)).mono ?_;rintro _ w5 ⟨_,rfl,hb5,rfl⟩;have hy5:=za (zh _ _ 1) hb5
 refine hK.out _ _ (fun _=>KEEP.out _ hy5) (fun hHeld=>?_);replace hHeld:=hHeld rfl
 clear hK K
 try simp only[Act.put,zsa,zsz,zss]
 refine anyE_take 10 (v:=?_) rfl (by kernel_rfl) (fun _ _ _ h=>h) (by rfl) ?hy10 hHeld ?r10
 case hy10=>(intro w hSw;(try dsimp only at hSw);go_simp;try with_reducible rfl)
 try simp only[Act.put,zsa,zsz,zss]
 refine anyE_one 11 rfl (by kernel_rfl) (fun K hK=>?_)
 go_simp
 refine hK.out _ _ (fun _=>KEEP.out _ hy5) (fun hHeld=>?_);replace hHeld:=hHeld rfl
 clear hK K
 try simp only[Act.put,zsa,zsz,zss]
 refine zy (by kernel_rfl) ?_ _
 have hz5:=za ex hy5
 clear hHeld KEEP hy5 hb5
 go_wp2
 go_ret
 exact .mk hz5 rfl
def countR (p:ProbD):Value:=if 1048576<p.num then .tuple #[.int .i64 0,.int .i64 17] else .tuple #[.int .i64 (p.num:Nat),.int .i64 0]
theorem Zb {S S':Nat→Prop} {w:World} {vc vs:Value} {p:ProbD} (hc:Sl kCase S w vc p.cs) (hs:Sl (kSl (kFlat 8)) S' w vs p.st) (hl:p.st.length≤1000):
  Calls Tryz.prog 28 #[.agg #[.int .i64 p.n,.int .i64 p.ins,.int .i64 p.outs,vc,.int .i64 p.an,vs,.int .i64 p.rounds]] w (Post w fun _ r=>r=if checkPr p=0 then countR p else .tuple #[.int .i64 0,.int .i64 (checkPr p)]):=by
 have HCI:=zhd (yd (p:=p))
 obtain ⟨ca,cc,rfl,_⟩:=hc.form
 obtain ⟨sa,sc,rfl,_⟩:=hs.form
 have KC:Hid (∀W,Below w.heap.size w W→Calls Tryz.prog 54 #[.agg #[.int .i64 p.n,.int .i64 p.ins,.int .i64 p.outs,.slice ca p.cs.length cc,.int .i64 p.an,.slice sa p.st.length sc,.int .i64 p.rounds]] W (Post W fun _ r=>r=.int .i64 (checkPr p))):=zhd fun W hW=>Z0 (hc.ext hW) (hs.ext hW) hl
 have KN:Hid (∀W,Below w.heap.size w W→checkPr p=0→Calls Tryz.prog 55 #[.agg #[.int .i64 p.an,.slice sa p.st.length sc],.int .i64 p.rounds] W (Post W fun _ r=>∃a b:Int,r=.tuple #[.int .i64 a,.int .i64 b]∧((1048576<cntW p.st p.rounds.toNat 0∧a=0∧b=17)∨(¬1048576<cntW p.st p.rounds.toNat 0∧a=(cntW p.st p.rounds.toNat 0:Nat)∧b=0)))):=zhd fun W hW h0=>by
  obtain ⟨h1,h2,h3,h4,h5⟩:=HCI.out h0
  obtain ⟨k,hk⟩:∃k:Nat,p.rounds=k:=⟨p.rounds.toNat,by omega⟩
  rw[hk,Int.toNat_natCast]
  refine (QI p.an (hs.ext hW) h2 k (by omega)).mono fun _ _ h=>h.imp fun W r hr=>?_
  subst hr
  unfold numR
  split
  ·rename_i h;exact ⟨_,_,rfl,.inl ⟨h,rfl,rfl⟩⟩
  ·rename_i h;exact ⟨_,_,rfl,.inr ⟨h,rfl,rfl⟩⟩
 have HCL:Hid (checkPr p=0→1≤p.cs.length∧p.cs.length≤1024):=zhd fun h0=>⟨(zU (HCI.out h0).1).2.2.2.2.2.2.1,(zU (HCI.out h0).1).2.2.2.2.2.2.2.1⟩
 have ex:=zb w (.cells #[.int .i64 p.n,.int .i64 p.ins,.int .i64 p.outs,.slice ca p.cs.length cc,.int .i64 p.an,.slice sa p.st.length sc,.int .i64 p.rounds] 29)
 have R:Row (w.alloc (.cells #[.int .i64 p.n,.int .i64 p.ins,.int .i64 p.outs,.slice ca p.cs.length cc,.int .i64 p.an,.slice sa p.st.length sc,.int .i64 p.rounds] 29)) w.heap.size 29 [.int .i64 p.n,.int .i64 p.ins,.int .i64 p.outs,.slice ca p.cs.length cc,.int .i64 p.an,.slice sa p.st.length sc,.int .i64 p.rounds]:=ze w [_,_,_,_,_,_,_] _
 obtain ⟨e,he⟩:∃e,e=checkPr p:=⟨_,rfl⟩
 obtain ⟨x,hx⟩:∃x,x=cntW p.st p.rounds.toNat 0:=⟨_,rfl⟩
 have HN:Hid (countR p=if 1048576<p.cs.length * x then .tuple #[.int .i64 0,.int .i64 17] else .tuple #[.int .i64 (p.cs.length * x:Nat),.int .i64 0]):=zhd (by rw[hx];rfl)
 rw[←he]at KC HCL ⊢
 rw[←hx]at KN
 rw[←he]at KN
 obtain ⟨r,hr⟩:∃r,r=if e=0 then countR p else .tuple #[.int .i64 0,.int .i64 e]:=⟨_,rfl⟩
 rw[←hr]
 have HR:Hid ((e≠0→r=.tuple #[.int .i64 0,.int .i64 e])∧(e=0→r=countR p)):=zhd ⟨fun h=>by rw[hr,if_neg h],fun h=>by rw[hr,if_pos h]⟩
 clear he hx hs hc hl HCI hr
 go_enter Tryz.func28,Tryz.ntmps28
 go_wp2_with fail
 refine (KC.out _ ex).mono ?_
 rintro _ w1 ⟨_,rfl,hb1,rfl⟩
 replace R:=R.ext hb1
 replace ex:=za ex hb1
 clear hb1 KC
 by_cases h0:e=0
 case neg=>
  have d0:(e !=0)=true:=by simp[h0]
  have RR:=zhd (HR.out.1 h0)
  clear h0
  go_wp2
  go_ret2
  exact .mk ex RR.out.symm
 subst h0
 have HRC:=zhd (HR.out.2 rfl)
 obtain ⟨hl1,hl2⟩:=HCL.out rfl
 have t3:=R.zc 3 rfl
 have t4:=R.zc 4 rfl
 have t5:=R.zc 5 rfl
 have t6:=R.zc 6 rfl
 go_wp2_with fail
 refine (KN.out _ ex trivial).mono ?_
 rintro _ w2 ⟨_,rfl,hb2,a,b,rfl,hab⟩
 replace R:=R.ext hb2
 replace ex:=za ex hb2
 clear hb2 KN t3 t4 t5 t6
 have t3:=R.zc 3 rfl
 rcases hab with ⟨hg,rfl,rfl⟩ | ⟨hg,rfl,rfl⟩
 ·have RR:Hid (r=.tuple #[.int .i64 0,.int .i64 17]):=zhd (by rw[HRC.out,HN.out,if_pos];have:1 * x≤p.cs.length * x:=Nat.mul_le_mul_right _ hl1;omega)
  clear hg
  go_wp2
  go_ret2
  exact .mk ex RR.out.symm
 have hmul:p.cs.length * x≤1024 * 1048577:=Nat.mul_le_mul hl2 (by omega)
 have hw:IntKind.i64.wrap ((x:Int) * (p.cs.length:Int))=((p.cs.length * x:Nat):Int):=by rw[Int.mul_comm,IntKind.wrap_i64];push_cast;omega
 obtain ⟨m,hm⟩:∃m,m=p.cs.length * x:=⟨_,rfl⟩
 rw[←hm]at HN hw
 by_cases hgt:1048576<m
 ·have RR:Hid (r=.tuple #[.int .i64 0,.int .i64 17]):=zhd (by rw[HRC.out,HN.out,if_pos hgt])
  clear hm hmul hg
  go_wp2
  go_ret2
  exact .mk ex RR.out.symm
 ·have RR:Hid (r=.tuple #[.int .i64 m,.int .i64 0]):=zhd (by rw[HRC.out,HN.out,if_neg hgt])
  clear hm hmul hg
  go_wp2
  go_ret2
  exact .mk ex RR.out.symm
end Go.Proofs.YtjpakklplhabdaaGreat
