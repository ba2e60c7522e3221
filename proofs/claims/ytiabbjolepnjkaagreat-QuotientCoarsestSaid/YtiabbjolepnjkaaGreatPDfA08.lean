/- Part of the proof that the laws answer true for every input. -/
import Derived.Test.YtiabbjolepnjkaaGreatPDfA05
import Derived.Test.YtiabbjolepnjkaaGreatPDfA07
set_option linter.unusedSimpArgs false
set_option linter.unnecessarySimpa false
set_option linter.unusedVariables false
set_option maxRecDepth 100000
set_option maxHeartbeats 40000000
namespace Go.Proofs.YtiabbjolepnjkaaGreat
open Go.RowKit Go.Shelf
attribute [local go_sem ↓] Go.wp_at_zero Go.wp_at_succ
attribute [local go_sem] Oper.semAt_some
def sumF (st:Moves) (k:Nat) (pre:List (Nat×List Int)) (s:Nat):Nat:=((pre.filter fun x=>x.1==s).map fun x=>cntW st k (nth x.2 7).toNat).sum
theorem zim (st:Moves) (k s:Nat):sumF st k [] s=0:=rfl
theorem zfS (st:Moves) (k:Nat) (pre:List (Nat×List Int)) (x:Nat×List Int) (s:Nat):sumF st k (pre++[x]) s=sumF st k pre s+if s=x.1 then cntW st k (nth x.2 7).toNat else 0:=by
 unfold sumF;rw[List.filter_append,List.map_append,List.sum_append];congr 1
 by_cases h:s=x.1
 ·rw[if_pos h,h];simp
 ·rw[if_neg h];have:(x.1==s)=false:=by simp;exact fun e=>h e.symm
  simp[List.filter,this]
theorem XJ (st:Moves) (k s:Nat):∀n,n≤st.length→sumF st k (pairsTo st n) s=if s<n then cntW st (k+1) s else 0
 | 0,_=>rfl
 | n+1,h=>by
  have ih:=XJ st k s n (by omega);rw[qR];unfold sumF at ih ⊢;rw[List.filter_append,List.map_append,List.sum_append,ih];by_cases e:s=n
  ·subst e;rw[if_neg (by omega),if_pos (by omega),Nat.zero_add,List.filter_eq_self.2 (by intro a ha;obtain ⟨m,_,rfl⟩:=List.mem_map.1 ha;simp),List.map_map];rfl
  ·have:(((nthM st n).map fun m=>(n,m)).filter fun x=>x.1==s)=[]:=by
    rw[List.filter_eq_nil_iff];intro a ha;obtain ⟨m,_,rfl⟩:=List.mem_map.1 ha;simp;omega
   rw[this];simp only[List.map_nil,List.sum_nil,Nat.add_zero];by_cases h1:s<n
   ·rw[if_pos h1,if_pos (by omega)]
   ·rw[if_neg h1,if_neg (by omega)]
def accL (st:Moves) (k L n:Nat) (pre:List (Nat×List Int)):List Int:=(List.range n).map fun s=>((min (sumF st k pre s) (L+1):Nat):Int)
theorem zif (st:Moves) (k L n:Nat) (pre:List (Nat×List Int)):(accL st k L n pre).length=n:=by simp[accL]
theorem zhU (st:Moves) (k L n:Nat):accL st k L n []=List.replicate n 0:=by
 apply List.ext_getElem (by simp[accL]);intro i h1 h2;simp[accL,zim]
theorem ziu {st:Moves} {k L n s:Nat} {pre:List (Nat×List Int)} (h:s<n):nth (accL st k L n pre) s=((min (sumF st k pre s) (L+1):Nat):Int):=by simp[nth,accL,h]
theorem zic (st:Moves) (k L:Nat):accL st k L st.length (pairsM st)=cntsL st (k+1) L st.length:=by
 unfold accL cntsL;apply List.map_congr_left;intro s hs;rw[←xL,XJ st k s _ (Nat.le_refl _),if_pos (List.mem_range.1 hs)];rfl
theorem zha {st:Moves} {k L n:Nat} {pre:List (Nat×List Int)} {x:Nat×List Int} {v:Nat} (hx:x.1<n) (hv:v=min (min (sumF st k pre x.1) (L+1)+cutW st k L (nth x.2 7).toNat) (L+1)):(accL st k L n pre).set x.1 (v:Int)=accL st k L n (pre++[x]):=by
 apply List.ext_getElem (by simp[accL]);intro i h1 h2;rw[List.getElem_set];simp only[accL,List.getElem_map,List.getElem_range,zfS];by_cases e:x.1=i
 ·subst e;rw[if_pos rfl,if_pos rfl,hv];unfold cutW;rw[zf2]
 ·rw[if_neg e,if_neg (fun h=>e h.symm)];rfl
theorem OwnInts.low {w:World} {base base' n:Nat} {e:TypeId} {v:Value} {xs:List Value} {z:Nat} (h:w.ownsRow base e z v n xs) (hb:base'≤base):w.ownsRow base' e z v n xs:=by
 refine ⟨h.1,?_⟩;rcases h.2 with hn | ⟨g,cap,cur,rfl,h1,h2,r⟩
 ·exact .inl hn
 ·exact .inr ⟨g,cap,cur,rfl,Nat.le_trans hb h1,h2,r⟩
theorem Cnts.agreeT {base:Nat} {T:Nat→Prop} {W W':World} {v:Value} {l:List Int} (h:Cnts base W v l) (hw:Agree T W W') (hT:∀g,v.ownBlock=some g→T g):Cnts base W' v l:=zJ h hw hT
theorem Cnts.form {base:Nat} {W:World} {v:Value} {l:List Int} (h:Cnts base W v l):∃a c,v=.slice a l.length c∧c≤maxLen:=by
 rcases (h:W.ownsRow base 3 1 _ _ _).2 with ⟨rfl,h0⟩ | ⟨g,cap,cur,rfl,hb,hg,hnc,hcm,_⟩
 ·exact ⟨none,0,by rw[h0],by simp[maxLen]⟩
 ·exact ⟨_,cap,rfl,hcm⟩
theorem zev {S:Nat→Prop} {w:World} {vs:Value} {st:Moves} (n:Int) (hs:Sl (kSl (kFlat 8)) S w vs st) (hok:MovesOK n st) (h1:1≤st.length) (hl:st.length≤1000) (K L:Nat) (hK:K≤6) (hL:L≤1048576):
  Calls Tryz.prog 156 #[.agg #[n,vs],K,L] w (Post w fun _ r=>r=.int .i64 (cutW st K L 0:Nat)):=by
 obtain ⟨sa,sc,rfl,hm⟩:=hs.addr;have HS:=zhd hs.block;have HOK:=zhd hok;clear hs hok;have ex:Below w.heap.size w (((w.alloc (.cells #[n,.slice sa st.length sc] 27)).alloc (.cells #[L] 3)).alloc (.cells #[.int .i64 1] 3)):=zh (zh (ze w _) _) _;have RA:Row (((w.alloc (.cells #[n,.slice sa st.length sc] 27)).alloc (.cells #[L] 3)).alloc (.cells #[.int .i64 1] 3)) w.heap.size 27 [n,.slice sa st.length sc]:=((zi w [_,_] _).alloc _).alloc _;have RL:Row (((w.alloc (.cells #[n,.slice sa st.length sc] 27)).alloc (.cells #[L] 3)).alloc (.cells #[.int .i64 1] 3)) (w.heap.size+1) 3 [L]:=by
  have:=(zi (w.alloc (.cells #[n,.slice sa st.length sc] 27)) [L] 3).alloc (.cells #[.int .i64 1] 3)
  rwa [World.size_alloc]at this
 have I1:=zhL ((w.alloc (.cells #[n,.slice sa st.length sc] 27)).alloc (.cells #[L] 3)) (w.heap.size+1+1) (by simp) [1] 3 (by decide) (by decide);have KR:=zhd (yY I1 st.length (by omega));clear I1;refine (callsIn_wide (n:=6)).1 ?_;refine callsIn_of_wp_marks Tryz.func156 rfl trivial ?_ rfl;simp only[Tryz.ntmps156,List.size_toArray,List.length_cons,List.length_nil,Nat.reduceAdd,Nat.reduceSub,Array.replicate_succ,Array.replicate_zero,List.push_toArray,List.append_toArray,List.nil_append,List.cons_append];refine wpIn_wide.2 ?_;go_wp2_with fail;refine KR.out.mono ?_;rintro _ w1 ⟨cv,rfl,hb1,hcv⟩;have hx1:=za ex hb1;replace RA:=RA.ext hb1;replace RL:=RL.ext hb1;have HC:Cnts (w.heap.size+2) w1 cv (cntsL st 0 L st.length):=by
  unfold OwnInts at hcv;unfold Cnts;rw[zae];exact OwnInts.low hcv (by simp)
 obtain ⟨ca,cc,rfl,_⟩:=HC.form;rw[zS]at HC ⊢;have hlt1:=hx1.size;have hlA:=RA.lt;have hlL:=RL.lt;have RC:=zi w1 [.slice ca st.length cc] 36;replace RA:=RA.alloc (.cells #[.slice ca st.length cc] 36);replace RL:=RL.alloc (.cells #[.slice ca st.length cc] 36);have hown:=HC.lt;replace HC:=zhd (HC.ext (ze w1 (.cells #[.slice ca st.length cc] 36)));have hx2:=zh hx1 (.cells #[.slice ca st.length cc] 36);obtain ⟨CB,hCB⟩:=zn w1.heap.size;have hne:∀g,(Value.slice ca st.length cc).ownBlock=some g→g≠CB:=fun g hg=>by have:=(hown g hg).2;omega
 have hCB2:w.heap.size+2≤CB:=by omega
 rw[←hCB]at RC;clear ex hb1 hx1 hcv KR hlt1 hown hlA hlL;go_wp2;rw[←hCB];clear hCB;refine wp_loop (fun a' wr=>∃(ds:List Deferred) (u8 u9 u10 u17 u18 u19 u20 u21 u22 u23 u26 u27 u28 u29 u30 u31 u32 u33 u34 u35 u36 u37 u38 u39 u40 u41 u42 u43:Value),(∃k:Nat,k≤K∧u17=.int .i64 k∧Below w.heap.size w wr∧Row wr w.heap.size 27 [n,.slice sa st.length sc]∧Row wr (w.heap.size+1) 3 [L]∧Marks w.heap.size wr ds∧∃a c,Row wr CB 36 [.slice a st.length c]∧Hid (Cnts (w.heap.size+2) wr (.slice a st.length c) (cntsL st k L st.length))∧∀g,(Value.slice a st.length c).ownBlock=some g→g≠CB)∧a'={tmps:=#[.agg #[n,.slice sa st.length sc],.int .i64 K,.int .i64 L,.pointer (some ⟨w.heap.size,0,none⟩),undef,.pointer (some ⟨w.heap.size+1,0,none⟩),.int .i64 0,.pointer (some ⟨CB,0,none⟩),u8,u9,u10,.slice (some ⟨w.heap.size+1+1,0,none⟩) 1 1,.pointer (some ⟨w.heap.size,1,none⟩),.slice sa st.length sc,.int .i64 st.length,.slice ca st.length cc,.int .i64 K,u17,u18,u19,u20,u21,u22,u23,undef,undef,u26,u27,u28,u29,u30,u31,u32,u33,u34,u35,u36,u37,u38,u39,u40,u41,u42,u43,undef,undef,undef],defers:=ds}) (fun a' _=>K - (intOf (a'.tmps.getD 17 undef)).toNat) ?_ ?_
 ·(repeat apply Exists.intro)
  refine ⟨?_,rfl⟩;exact ⟨0,Nat.zero_le _,rfl,hx2,RA,RL,.nil _ _,_,_,RC,HC,hne⟩
 ·intro _ wr hinv;obtain ⟨ds,u8,u9,u10,u17,u18,u19,u20,u21,u22,u23,u26,u27,u28,u29,u30,u31,u32,u33,u34,u35,u36,u37,u38,u39,u40,u41,u42,u43,hrel,ha⟩:=hinv;subst ha;clear hx2 RA RL RC HC hne;obtain ⟨k,hk,rfl,hb,RA,RL,HM,va,vc,RC,HC,hne⟩:=hrel;have HM:=zhd HM;have c0:=RC.zc 0 rfl;by_cases hkt:k<K
  case neg=>
   obtain rfl:k=K:=by omega
   have hci:∀W':World,(Instr.indexAt 36 (.slice va st.length vc) (.int .i64 0)).run Tryz.prog W'=.ok (.pointer (some (adr va 0))) W':=HC.out.idx (zS _ _ _ _).symm 0 (by rw[zS];omega);have hcc:=yv (HC.out.read (Qk hL)) (.refl _ _) 0 (by rw[zS];omega);have hcv:((cntsL st k L st.length).map (Value.int .i64)).getD 0 undef=.int .i64 (cutW st k L 0:Nat):=by
    rw[←ZZ (show 0<st.length by omega)];rw[List.getD_eq_getElem?_getD,List.getElem?_map,get?_nth (by rw[zS];omega)];rfl
   rw[hcv]at hcc;have hbk:=World.block_lt_of_cell? _ _ hcc;have hbk2:=RC.lt;clear hcv;go_wp2;refine zcr (zbR HM.out hb.size fun W' hbel _=>?_);exact ⟨.int .i64 (cutW st k L 0:Nat),by simp[results,Tryz.results156,go_sem],.mk (hb.trans hbel) rfl⟩
  obtain ⟨i0,hi,hz0,hz1,hz2⟩:=info_parts zI;have hb2:w.heap.size+2≤wr.heap.size:=by have:=RC.lt;omega
  have hbk2:=RC.lt;have a0:=RA.zc 0 rfl;have a1:=RA.zc 1 rfl;have hla:=RA.lt;obtain ⟨wo,rfl⟩:∃wo:World,wo=wr:=⟨_,rfl⟩;go_wp2_with (first | (at_make;refine wpList_make_full _ rfl _ _ 36 rfl (w.heap.size+2) 3 i0 (.int .i64 0) 1 Tryz.underlying36 hi hz0 hz1 .i64 .i64 _ _ st.length rfl rfl rfl rfl (by rw[hz2];omega) (by unfold maxLen;omega) hb2 ?_;intro w2 hown2 hgrow2;have hbw:Below wo.heap.size wo w2:=(Below.refl _ wo).grown hgrow2 (Nat.le_refl _) (fun j hj=>by cases hj);have RA2:=RA.ext hbw;have d0:=RA2.zc 0 rfl;have d1:=RA2.zc 1 rfl;have hla2:=RA2.lt;have KM:=zhd (ZK (w2.alloc (.cells #[.slice (some ⟨wo.heap.size,0,none⟩) st.length st.length] 36)) n (.slice sa st.length sc) rfl rfl)) | fail);refine KM.out.mono ?_;rintro _ _ ⟨rfl,rfl⟩;have hmc:(madeCells #[Value.int .i64 0] (st.length * 1)).toList=(accL st k L st.length []).map (Value.int .i64):=by
   rw[Nat.mul_one,zhU,List.map_replicate];exact (toList_madeCells_one _ _)
  have RN:=(Row.of_own hown2).1.get hmc;have hs2:wo.heap.size<w2.heap.size:=RN.lt;have hb3:Below wo.heap.size wo ((w2.alloc (.cells #[.slice (some ⟨wo.heap.size,0,none⟩) st.length st.length] 36)).alloc (.cells #[n,.slice sa st.length sc] 27)):=(hbw.alloc hbw.size _).alloc (by simp;omega) _;have hx3:=za hb hb3;have RNB:=(zi w2 [.slice (some ⟨wo.heap.size,0,none⟩) st.length st.length] 36).alloc (.cells #[n,.slice sa st.length sc] 27);have RB:=zi (w2.alloc (.cells #[.slice (some ⟨wo.heap.size,0,none⟩) st.length st.length] 36)) [n,.slice sa st.length sc] 27;rw[World.size_alloc]at RB ⊢;replace RN:=(RN.alloc (.cells #[.slice (some ⟨wo.heap.size,0,none⟩) st.length st.length] 36)).alloc (.cells #[n,.slice sa st.length sc] 27);have RA3:=RA.ext hb3;have RL3:=RL.ext hb3;have RC3:=RC.ext hb3;have HM3:=zhd (HM.out.ext hb3);have HCL:=HC.out.lt;have HC3:=zhd (HC.out.ext hb3);have hCBl:=RC.lt;obtain ⟨NA,hNA⟩:=zn wo.heap.size;obtain ⟨NB,hNB⟩:=zn w2.heap.size;obtain ⟨w3,hw3⟩:=zn ((w2.alloc (.cells #[.slice (some ⟨wo.heap.size,0,none⟩) st.length st.length] 36)).alloc (.cells #[n,.slice sa st.length sc] 27));rw[←hw3]at hb3 hx3 RNB RB RN RA3 RL3 RC3 HM3 HC3 ⊢;rw[←hNB]at RNB RB hs2 ⊢;rw[←hNA]at RN RNB HCL hs2 hCBl ⊢;have hwN:w.heap.size+2≤NA:=by omega
  have z3:=RB.lt;have hHT:Hid (∀b,(b<w3.heap.size∧b≠NA)→b<w3.heap.size):=zhd fun b h=>h.1;clear hw3 KM hmc hown2 hgrow2 hbw RA2 d0 d1 hla2 a0 a1 hla hbk2 c0 hi hz0 hz1 hz2 hNB hNA hb3 hb2 HC RA RL RC HM hb;go_wp2;refine wpIn_wide (n:=6).1 ?_;have HST:=ZJ (Px:=fun x=>MoveOK n st x.2∧x.1<st.length) (T:=fun b=>b<w3.heap.size∧b≠NA) (n:=5) (by decide) RB (HS.out.ext hx3) ⟨by omega,by omega⟩ (fun b hb=>⟨by have:=hb.2;have:=hx3.size;omega,by have:=hb.2;omega⟩) hHT.out (fun k hk j hj=>⟨⟨((HOK.out k hk).2 j hj).1,((HOK.out k hk).2 j hj).2.1,((HOK.out k hk).2 j hj).2.2.1,((HOK.out k hk).2 j hj).2.2.2⟩,hk⟩);apply xT (n:=6) rfl (by decide) (gf:=188) (lb:=#[.pointer (some ⟨NB+1,0,none⟩)]) rfl trivial (enters_of Tryz.func188 (by kernel_rfl) rfl)
   HST xI (xH hHT.out) zas (fun _=>rfl)
   (fun (pre:List {x:Nat×List Int // MoveOK n st x.2∧x.1<st.length}) W=>Row W NA 3 ((accL st k L st.length (pre.map (·.1))).map (Value.int .i64))∧Agree (fun b=>b<w3.heap.size∧b≠NA) w3 W∧Below w.heap.size w W)
   (fun c (pre:List {x:Nat×List Int // MoveOK n st x.2∧x.1<st.length}) W=>False)
   (OwnFrom.and (yF (xs:=fun (pre:List {x:Nat×List Int // MoveOK n st x.2∧x.1<st.length})=>(accL st k L st.length (pre.map (·.1))).map (Value.int .i64)) (by omega)) (OwnFrom.and (Yu hHT.out) (ownFrom_below (Nat.le_refl _) hx3.size)))
   (fun c=>qh _) ⟨RN,.refl _ _,hx3⟩ (fun x=>.cells #[.int .i64 (nth x.1.2 0),.int .i64 (nth x.1.2 1),.int .i64 (nth x.1.2 2),.int .i64 (nth x.1.2 3),.int .i64 (nth x.1.2 4),.int .i64 (nth x.1.2 5),.int .i64 (nth x.1.2 6),.int .i64 (nth x.1.2 7)] 155)
  case hassign=>
   intro l x W g K hgW hK;unfold mL;gi_wp2;rw[←hgW];exact hK
  case hbody=>
   rintro l pre ⟨⟨s,m⟩,hpx⟩ W ⟨hR,hA,hBW⟩ hsW hlen;dsimp only at hpx ⊢;have hpx2:=hpx;obtain ⟨⟨hm1,hm2,hm3,hm4⟩,hms⟩:=hpx2;have cell0:∀(b j:Nat) (e:TypeId) (xs:List Value) (u:Value),Row w3 b e xs→b≠NA→xs[j]? =some u→(W.alloc (.cells #[nth m 0,nth m 1,nth m 2,nth m 3,nth m 4,nth m 5,nth m 6,nth m 7] 155)).cell? ⟨b,j,none⟩=some u:=fun b j e xs u hb hne hu=>((hb.agree hA ⟨hb.lt,hne⟩).alloc _).cell hu;have f1:=cell0 NB 0 _ _ _ RNB (by omega) rfl;have f2:=cell0 CB 0 _ _ _ RC3 (by omega) rfl;have f3:=cell0 (w.heap.size+1) 0 _ _ _ RL3 (by omega) rfl;have RM:=zi W [nth m 0,nth m 1,nth m 2,nth m 3,nth m 4,nth m 5,nth m 6,nth m 7] 155;obtain ⟨to,hto⟩:∃t:Nat,nth m 7=t:=⟨(nth m 7).toNat,by omega⟩;have f4:=RM.cell (j:=7) (u:=.int .i64 to) (by rw[←hto];rfl);rw[hto]at hm3 hm4;have hal:=zif st k L st.length (pre.map (·.1));have R0:=hR.alloc (.cells #[nth m 0,nth m 1,nth m 2,nth m 3,nth m 4,nth m 5,nth m 6,nth m 7] 155);obtain ⟨x,hx⟩:=zn (min (sumF st k (pre.map (·.1)) s) (L+1));have f5:=R0.cell (j:=s) (u:=.int .i64 x) (by rw[List.getElem?_map,get?_nth (by rw[hal];exact hms),ziu hms,hx];rfl);have f7:=R0.free s;have f8:=R0.lt;have HCW:=(HC3.out.agreeT hA (fun g hg=>⟨by have:=(HC3.out.lt g hg).2;omega,by have:=(HCL g hg).2;omega⟩)).ext (ze W (.cells #[nth m 0,nth m 1,nth m 2,nth m 3,nth m 4,nth m 5,nth m 6,nth m 7] 155));have htl:to<st.length:=by omega
   obtain ⟨y,hy⟩:=zn (cutW st k L to);have f6:=yv (HCW.read (Qk hL)) (.refl _ _) to (by rw[zS];exact htl);have hcv:((cntsL st k L st.length).map (Value.int .i64)).getD to undef=.int .i64 (y:Nat):=by
    rw[hy,←ZZ htl,List.getD_eq_getElem?_getD,List.getElem?_map,get?_nth (by rw[zS];exact htl)];rfl
   rw[hcv]at f6;have q1:∀W':World,(Instr.indexAt 36 (.slice va st.length vc) (.int .i64 to)).run Tryz.prog W'=.ok (.pointer (some (adr va to))) W':=HCW.idx (zS _ _ _ _).symm to (by rw[zS];exact htl);have q2:∀W':World,(Instr.indexAt 36 (.slice (some ⟨NA,0,none⟩) st.length st.length) (.int .i64 s)).run Tryz.prog W'=.ok (.pointer (some ⟨NA,s,none⟩)) W':=by
    obtain ⟨i,hi,_,h1,_⟩:=info_parts zI;have:=zL (P:=Tryz.prog) (S:=fun _=>True) (w:=w3) Tryz.underlying36 hi h1 (a:=some ⟨NA,0,none⟩) (n:=st.length) (cap:=st.length) (.inr ⟨NA,0,rfl,by omega,trivial⟩) s hms;rw[yi,Nat.zero_add]at this;exact this
   have hxl:x≤L+1:=by rw[hx];exact Nat.min_le_right _ _
   have hyl:y≤L+1:=by rw[hy];exact Q7 _ _ _ _
   have hw1:IntKind.i64.wrap ((x:Int)+(y:Int))=((x+y:Nat):Int):=by rw[IntKind.wrap_i64];omega
   have hw2:IntKind.i64.wrap ((L:Int)+1)=((L+1:Nat):Int):=by rw[IntKind.wrap_i64];omega
   have FIN:Hid (∀(W':World) (v:Int),W'=((W.alloc (.cells #[nth m 0,nth m 1,nth m 2,nth m 3,nth m 4,nth m 5,nth m 6,nth m 7] 155)).setCell ⟨NA,s,none⟩ (.int .i64 v)).drew→v=(min (x+y) (L+1):Nat)→KeepsOthers (W.alloc (.cells #[nth m 0,nth m 1,nth m 2,nth m 3,nth m 4,nth m 5,nth m 6,nth m 7] 155)) W'∧Agree (fun b=>b<w3.heap.size∧b≠NA) (W.alloc (.cells #[nth m 0,nth m 1,nth m 2,nth m 3,nth m 4,nth m 5,nth m 6,nth m 7] 155)) W'∧Row W' NA 3 ((accL st k L st.length ((pre++[(⟨(s,m),hpx⟩:{x:Nat×List Int // MoveOK n st x.2∧x.1<st.length})]).map (·.1))).map (Value.int .i64))∧Agree (fun b=>b<w3.heap.size∧b≠NA) w3 W'∧Below w.heap.size w W'):=zhd fun W' v hW hv=>by
    subst hW hv;have hag:=(Agree.of_grown (zj (W.alloc (.cells #[nth m 0,nth m 1,nth m 2,nth m 3,nth m 4,nth m 5,nth m 6,nth m 7] 155)) NA s (.int .i64 ((min (x+y) (L+1):Nat):Int))) (S:=fun b=>b<w3.heap.size∧b≠NA) fun b hb e=>by cases e;exact hb.2 rfl);refine ⟨KeepsOthers.trans (.setCell _ _ _) (zY (zb _ _ 1)),hag.trans (zC _ _ 1),?_,(hA.alloc _).trans (hag.trans (zC _ _ 1)),((hBW.alloc hBW.size _).setCell (by simp;omega) _).trans (zb _ _ 1)⟩;have hset:=(R0.set s (.int .i64 ((min (x+y) (L+1):Nat):Int))).agree (S:=fun _=>True) (zC _ _ 1) trivial;rw[←List.map_set,zha (x:=(s,m)) hms (by rw[hx,hy];unfold cutW;dsimp only;rw[hto,Int.toNat_natCast])]at hset;rw[List.map_append];exact hset
   obtain ⟨g,hg⟩:=zn W.heap.size;obtain ⟨W0,hW0⟩:=zn (W.alloc (.cells #[nth m 0,nth m 1,nth m 2,nth m 3,nth m 4,nth m 5,nth m 6,nth m 7] 155));rw[←hg]at f4 ⊢;rw[←hW0]at f1 f2 f3 f4 f5 f6 f7 f8 FIN ⊢;clear cell0 RM hR hA hBW hal R0 HCW hcv hx hy hto hg hW0 hm1 hm2 hm3 hm4 HST;gi_wp2;refine yQ (fun w':World=>w'.cell? ⟨NB,0,none⟩=some (.slice (some ⟨NA,0,none⟩) st.length st.length)∧w'.cell? ⟨CB,0,none⟩=some (.slice va st.length vc)∧w'.cell? ⟨w.heap.size+1,0,none⟩=some (.int .i64 L)∧w'.cell? ⟨g,7,none⟩=some (.int .i64 to)∧w'.cell? ⟨NA,s,none⟩=some (.int .i64 x)∧w'.cell? (adr va to)=some (.int .i64 y)∧w'.frozen? ⟨NA,s,none⟩=false∧NA<w'.heap.size) (fun i=>i==16) (by kernel_rfl) (by kernel_rfl) (by rintro ⟨_,_,h⟩;exact h) ?_ (fun hHeld=>?_)
   ·exact ⟨f1,f2,f3,f4,f5,f6,f7,f8⟩
   refine zt 0 hHeld ?_;refine zt 1 hHeld ?_;refine zt 2 hHeld ?_;refine zt 3 hHeld ?_;refine zt 4 hHeld ?_;refine zt 5 hHeld ?_;refine zt 6 hHeld ?_;refine zt 7 hHeld ?_;refine zt 8 hHeld ?_;refine zt 9 hHeld ?_;refine zt 10 hHeld ?_;refine zt 11 hHeld ?_;refine zt 12 hHeld ?_;refine zt 13 hHeld ?_;refine zt 14 hHeld ?_;refine zt 15 hHeld ?_;refine zo 16 (fun K hK=>?_);go_simp;refine hK.out _ _ (fun h=>by simp at h) (fun hHeld=>?_);clear hK K;try simp only[Act.put,zsa,zsz,zss]
   refine zz (by kernel_rfl) ?_ _;gi_wp2;all_goals exact FIN.out _ _ rfl (by omega)
  case hstop=>intros;contradiction
  case hdone=>
   rintro D xs W hD hS ⟨hR,hA,hBW⟩ hK;rw[hS,zic]at hR;have P1:=RNB.agree hA ⟨by omega,by omega⟩;have PA:=RA3.agree hA ⟨RA3.lt,by omega⟩;have PL:=RL3.agree hA ⟨RL3.lt,by omega⟩;have PC:=RC3.agree hA ⟨RC3.lt,by omega⟩;have c0:=P1.zc 0 rfl;have c1:=PC.zc 0 rfl;have c2:=PC.free 0;have c3:=PC.lt;have HMW:=HM3.out.agree hA (fun D hD=>⟨(Array.getElem?_eq_some_iff.1 hD).1,fun e=>by have:=RN;unfold Row at this;rw[e]at hD;rw[hD]at this;cases this⟩);have HMC:=(HM3.out.cons (D:=D) HMW hD (by have:=hx3.size;omega) hK).set;have HW:Hid (∀W',W'=W.setCell ⟨CB,0,none⟩ (.slice (some ⟨NA,0,none⟩) st.length st.length)→Below w.heap.size w W'∧Row W' w.heap.size 27 [n,.slice sa st.length sc]∧Row W' (w.heap.size+1) 3 [L]∧Marks w.heap.size W' ({target:=.collected D,args:=#[]}::ds)∧Row W' CB 36 [.slice (some ⟨NA,0,none⟩) st.length st.length]∧Hid (Cnts (w.heap.size+2) W' (.slice (some ⟨NA,0,none⟩) st.length st.length) (cntsL st (k+1) L st.length))∧∀g,(Value.slice (some ⟨NA,0,none⟩) st.length st.length).ownBlock=some g→g≠CB):=zhd fun W' hW=>by
    subst hW;have hgr:=zj W CB 0 (.slice (some ⟨NA,0,none⟩) st.length st.length);refine ⟨hBW.setCell (by simp;omega) _,PA.grown hgr (by simp;omega),PL.grown hgr (by simp;omega),HMC _ _,PC.set 0 _,zhd ?_,fun g hg=>by simp[Value.ownBlock]at hg;omega⟩;have hO:=(hR.grown hgr (by simp;omega)).owns (base:=w.heap.size+2) (by omega) (by simp[zS,maxLen];omega);rw[List.length_map,zS]at hO;unfold Cnts;rw[zS];exact hO
   clear P1 PA PL PC hBW HMW HMC hR hA hS RNB RB RN RA3 RL3 RC3 HM3 HC3;go_wp2;refine ⟨?rel,?measure⟩
   case rel=>
    obtain ⟨g1,g2,g3,g4,g5,g6,g7⟩:=HW.out _ rfl
    (repeat apply Exists.intro)
    refine ⟨?hr,?he⟩
    case he=>repeat' (first | exact rfl | apply And.intro)
    exact ⟨k+1,by omega,by go_num,g1,g2,g3,g4,_,_,g5,g6,g7⟩
   case measure=>simp[intOf];omega
end Go.Proofs.YtiabbjolepnjkaaGreat
namespace Go.Proofs.YtiabbjolepnjkaaGreat
open Go.RowKit
attribute [local go_sem ↓] Go.wp_at_zero Go.wp_at_succ
theorem QH {st:Moves} {k L s:Nat}:(L<cutW st k L s)↔L<cntW st k s:=by unfold cutW;omega
theorem zcO {st:Moves} {k L s:Nat} (h:¬L<cntW st k s):cutW st k L s=cntW st k s:=by unfold cutW;omega
theorem yR {n ins outs:Int} {l:List CaseD} (h:checkT n ins outs l=0):1≤n∧n≤5∧1≤ins∧ins≤8∧1≤outs∧outs≤8∧1≤l.length∧l.length≤1024∧∀k,k<l.length→caseE n ins outs l k=0:=by
 unfold checkT at h;by_cases h1:n<1∨5<n∨ins<1∨8<ins∨outs<1∨8<outs
 ·rw[if_pos h1]at h;cases h
 ·rw[if_neg h1]at h;by_cases h2:l.length<1∨1024<l.length
  ·rw[if_pos h2]at h;cases h
  ·rw[if_neg h2]at h;exact ⟨by omega,by omega,by omega,by omega,by omega,by omega,by omega,by omega,yJ.1 h⟩
def numR (st:Moves) (K L:Nat):Value:=if L<cntW st K 0 then .tuple #[.int .i64 0,.int .i64 17] else .tuple #[.int .i64 (cntW st K 0:Nat),.int .i64 0]
theorem Z3 {S:Nat→Prop} {w:World} {vs:Value} {st:Moves} (n:Int) (hs:Sl (kSl (kFlat 8)) S w vs st) (hz:checkA n st=0) (K L:Nat) (hK:K≤6) (hL:L≤1048576):
  Calls Tryz.prog 128 #[.agg #[n,vs],K,L] w (Post w fun _ r=>r=numR st K L):=by
 obtain ⟨_,_,hl1,hl2,_,hok,_⟩:=xw hz;obtain ⟨sa,sc,rfl,hm⟩:=hs.addr;have KC:Hid (∀W,Below w.heap.size w W→Calls Tryz.prog 155 #[.agg #[n,.slice sa st.length sc]] W (Post W fun _ r=>r=.int .i64 0)):=zhd fun W hW=>by rw[←hz];exact Ya n (hs.ext hW) (by omega)
 have KN:Hid (∀W,Below w.heap.size w W→Calls Tryz.prog 156 #[.agg #[n,.slice sa st.length sc],K,L] W (Post W fun _ r=>r=.int .i64 (cutW st K L 0:Nat))):=zhd fun W hW=>zev n (hs.ext hW) hok hl1 (by omega) K L hK hL;have HR:Hid ((L<cutW st K L 0→numR st K L=.tuple #[.int .i64 0,.int .i64 17])∧(¬L<cutW st K L 0→numR st K L=.tuple #[.int .i64 (cutW st K L 0:Nat),.int .i64 0])):=zhd ⟨fun h=>by unfold numR;rw[if_pos (QH.1 h)],fun h=>by unfold numR;rw[if_neg (fun h'=>h (QH.2 h')),zcO (fun h'=>h (QH.2 h'))]⟩;obtain ⟨x,hx⟩:=zn (cutW st K L 0);rw[←hx]at KN HR;obtain ⟨r,hr⟩:=zn (numR st K L);rw[←hr]at HR ⊢;have hxl:x≤L+1:=by rw[hx];exact Q7 _ _ _ _
 clear hx hr hs hz hok hl1 hl2;have ex:=ze w (.cells #[n,.slice sa st.length sc] 27);have R:Row (w.alloc (.cells #[n,.slice sa st.length sc] 27)) w.heap.size 27 [n,.slice sa st.length sc]:=zi w [_,_] _;have g1:decide ((K:Int)<0)=false:=decide_eq_false (by omega);have g2:decide (6<(K:Int))=false:=decide_eq_false (by omega);go_enter Tryz.func128,Tryz.ntmps128;go_wp2_with fail;refine (KC.out _ ex).mono ?_;rintro _ w1 ⟨_,rfl,hb1,rfl⟩;replace R:=R.ext hb1;replace ex:=za ex hb1;have t0:=R.zc 0 rfl;have t1:=R.zc 1 rfl;clear hb1;go_wp2_with fail;refine (KN.out _ ex).mono ?_;rintro _ w2 ⟨_,rfl,hb2,rfl⟩;replace ex:=za ex hb2;clear hb2 t0 t1 R KN KC;by_cases hg:L<x
 ·have RR:=zhd (HR.out.1 hg);go_wp2;go_ret2;exact .mk ex RR.out.symm
 ·have RR:=zhd (HR.out.2 hg);go_wp2;go_ret2;exact .mk ex RR.out.symm
theorem zbN {S:Nat→Prop} {w:World} {vs:Value} {st:Moves} (n:Int) (hs:Sl (kSl (kFlat 8)) S w vs st) (hz:checkA n st=0) (K:Nat) (hK:K≤6):
  Calls Tryz.prog 127 #[.agg #[n,vs],K] w (Post w fun _ r=>r=numR st K 1048576):=by
 obtain ⟨sa,sc,rfl,hm⟩:=hs.addr;have ex:=ze w (.cells #[n,.slice sa st.length sc] 27);have KC:Hid (Calls Tryz.prog 128 #[.agg #[n,.slice sa st.length sc],K,.int .i64 1048576] (w.alloc (.cells #[n,.slice sa st.length sc] 27)) (Post (w.alloc (.cells #[n,.slice sa st.length sc] 27)) fun _ r=>∃a b:Int,r=.tuple #[a,b]∧numR st K 1048576=.tuple #[a,b])):=zhd ((Z3 n (hs.ext ex) hz K 1048576 hK (by omega)).mono fun _ _ h=>h.imp fun W r hr=>by
  subst hr;unfold numR;split
  ·exact ⟨_,_,rfl,rfl⟩
  ·exact ⟨_,_,rfl,rfl⟩)
 clear hs hz;go_enter Tryz.func127,Tryz.ntmps127;go_wp2_with fail;refine KC.out.mono ?_;rintro _ w1 ⟨_,rfl,hb1,a,b,rfl,hr⟩;have HR:=zhd hr;clear hr KC;go_wp2;go_ret2;exact .mk (za ex hb1) HR.out.symm
theorem Yg {S S':Nat→Prop} {w:World} {vc vs:Value} {p:ProbD} (hc:Sl kCase S w vc p.cs) (hs:Sl (kSl (kFlat 8)) S' w vs p.st) (hz:checkPr p=0) (L:Nat) (hL:L≤1048576):
  Calls Tryz.prog 116 #[.agg #[p.n,p.ins,p.outs,vc,p.an,vs,p.rounds],L] w (Post w fun _ r=>r=.int .i64 (p.cs.length * cutW p.st p.rounds.toNat L 0:Nat)):=by
 obtain ⟨h1,h2,h3,h4,h5⟩:=Za hz;obtain ⟨_,_,hl1,hl2,_,hok,_⟩:=xw h2;have hcl:=(yR h1).2.2.2.2.2.2.2.1;obtain ⟨ca,cc,rfl,_⟩:=hc.form;obtain ⟨sa,sc,rfl,_⟩:=hs.form;obtain ⟨k,hk⟩:∃k:Nat,p.rounds=k:=⟨p.rounds.toNat,by omega⟩;have KN:Hid (∀W,Below w.heap.size w W→Calls Tryz.prog 142 #[.agg #[p.an,.slice sa p.st.length sc],p.rounds,L] W (Post W fun _ r=>r=.int .i64 (cutW p.st p.rounds.toNat L 0:Nat))):=zhd fun W hW=>by rw[hk];exact ze0 p.an (hs.ext hW) hok hl1 (by omega) k L (by omega) hL
 have ex:=ze w (.cells #[p.n,p.ins,p.outs,.slice ca p.cs.length cc,p.an,.slice sa p.st.length sc,p.rounds] 29);have R:Row (w.alloc (.cells #[p.n,p.ins,p.outs,.slice ca p.cs.length cc,p.an,.slice sa p.st.length sc,p.rounds] 29)) w.heap.size 29 [p.n,p.ins,p.outs,.slice ca p.cs.length cc,p.an,.slice sa p.st.length sc,p.rounds]:=zi w [_,_,_,_,_,_,_] _;obtain ⟨x,hx⟩:=zn (cutW p.st p.rounds.toNat L 0);rw[←hx]at KN ⊢;have hxl:x≤L+1:=by rw[hx];exact Q7 _ _ _ _
 have hmul:p.cs.length * x≤1024 * 1048577:=Nat.mul_le_mul hcl (by omega);have hw:IntKind.i64.wrap ((p.cs.length:Int) * (x:Int))=((p.cs.length * x:Nat):Int):=by rw[IntKind.wrap_i64];push_cast;omega
 clear hx hs hc hz h1 h2 h3 h4 h5 hk hok hl1 hl2 hcl;have KEEP:Hid (∀W,Below (w.alloc (.cells #[p.n,p.ins,p.outs,.slice ca p.cs.length cc,p.an,.slice sa p.st.length sc,p.rounds] 29)).heap.size (w.alloc (.cells #[p.n,p.ins,p.outs,.slice ca p.cs.length cc,p.an,.slice sa p.st.length sc,p.rounds] 29)) W→W.cell? ⟨w.heap.size,3,none⟩=some (.slice ca p.cs.length cc)∧W.cell? ⟨w.heap.size,4,none⟩=some (.int .i64 p.an)∧W.cell? ⟨w.heap.size,5,none⟩=some (.slice sa p.st.length sc)∧W.cell? ⟨w.heap.size,6,none⟩=some (.int .i64 p.rounds)):=zhd fun W hW=>⟨(R.ext hW).zc 3 rfl,(R.ext hW).zc 4 rfl,(R.ext hW).zc 5 rfl,(R.ext hW).zc 6 rfl⟩;go_enter Tryz.func116,Tryz.ntmps116;go_wp2;refine zF (fun w':World=>w'.cell? ⟨w.heap.size,3,none⟩=some (.slice ca p.cs.length cc)∧w'.cell? ⟨w.heap.size,4,none⟩=some (.int .i64 p.an)∧w'.cell? ⟨w.heap.size,5,none⟩=some (.slice sa p.st.length sc)∧w'.cell? ⟨w.heap.size,6,none⟩=some (.int .i64 p.rounds)) (fun i=>false) (by kernel_rfl) ?_ (fun hHeld=>?_)
 ·exact KEEP.out _ (zb _ _ 1)
 refine zt 0 hHeld ?_;refine zt 1 hHeld ?_;refine zt 2 hHeld ?_;refine zt 3 hHeld ?_;refine zt 4 hHeld ?_;refine zt 5 hHeld ?_;refine zt 6 hHeld ?_;refine zt 7 hHeld ?_;refine zt 8 hHeld ?_;refine zo 9 (fun K hK=>?_);go_simp;go_at_call 142;refine (KN.out _ (zv ex 1)).mono ?_;rintro _ w5 ⟨_,rfl,hb5,rfl⟩;have hy5:=za (zb _ _ 1) hb5;refine zk hK (KEEP.out _ hy5) (fun hHeld=>?_);clear hK K;refine zt 10 hHeld ?_;refine zo 11 (fun K hK=>?_);go_simp;refine zk hK (KEEP.out _ hy5) (fun hHeld=>?_);clear hK K;refine zz (by kernel_rfl) ?_ _;have hz5:=za ex hy5;clear hHeld KEEP hy5 hb5;go_wp2;go_ret;exact .mk hz5 rfl
def countR (p:ProbD):Value:=if 1048576<p.num then .tuple #[.int .i64 0,.int .i64 17] else .tuple #[.int .i64 (p.num:Nat),.int .i64 0]
theorem Qa {S S':Nat→Prop} {w:World} {vc vs:Value} {p:ProbD} (hc:Sl kCase S w vc p.cs) (hs:Sl (kSl (kFlat 8)) S' w vs p.st) (hl:p.st.length≤1000):
  Calls Tryz.prog 94 #[.agg #[p.n,p.ins,p.outs,vc,p.an,vs,p.rounds]] w (Post w fun _ r=>r=if checkPr p=0 then countR p else .tuple #[.int .i64 0,checkPr p]):=by
 have HCI:=zhd (Za (p:=p));obtain ⟨ca,cc,rfl,_⟩:=hc.form;obtain ⟨sa,sc,rfl,_⟩:=hs.form;have KC:Hid (∀W,Below w.heap.size w W→Calls Tryz.prog 126 #[.agg #[p.n,p.ins,p.outs,.slice ca p.cs.length cc,p.an,.slice sa p.st.length sc,p.rounds]] W (Post W fun _ r=>r=.int .i64 (checkPr p))):=zhd fun W hW=>XG (hc.ext hW) (hs.ext hW) hl;have KN:Hid (∀W,Below w.heap.size w W→checkPr p=0→Calls Tryz.prog 127 #[.agg #[p.an,.slice sa p.st.length sc],p.rounds] W (Post W fun _ r=>∃a b:Int,r=.tuple #[a,b]∧((1048576<cntW p.st p.rounds.toNat 0∧a=0∧b=17)∨(¬1048576<cntW p.st p.rounds.toNat 0∧a=(cntW p.st p.rounds.toNat 0:Nat)∧b=0)))):=zhd fun W hW h0=>by
  obtain ⟨h1,h2,h3,h4,h5⟩:=HCI.out h0;obtain ⟨k,hk⟩:∃k:Nat,p.rounds=k:=⟨p.rounds.toNat,by omega⟩;rw[hk,Int.toNat_natCast];refine (zbN p.an (hs.ext hW) h2 k (by omega)).mono fun _ _ h=>h.imp fun W r hr=>?_;subst hr;unfold numR;split
  ·rename_i h;exact ⟨_,_,rfl,.inl ⟨h,rfl,rfl⟩⟩
  ·rename_i h;exact ⟨_,_,rfl,.inr ⟨h,rfl,rfl⟩⟩
 have HCL:Hid (checkPr p=0→1≤p.cs.length∧p.cs.length≤1024):=zhd fun h0=>⟨(yR (HCI.out h0).1).2.2.2.2.2.2.1,(yR (HCI.out h0).1).2.2.2.2.2.2.2.1⟩;have ex:=ze w (.cells #[p.n,p.ins,p.outs,.slice ca p.cs.length cc,p.an,.slice sa p.st.length sc,p.rounds] 29);have R:Row (w.alloc (.cells #[p.n,p.ins,p.outs,.slice ca p.cs.length cc,p.an,.slice sa p.st.length sc,p.rounds] 29)) w.heap.size 29 [p.n,p.ins,p.outs,.slice ca p.cs.length cc,p.an,.slice sa p.st.length sc,p.rounds]:=zi w [_,_,_,_,_,_,_] _;obtain ⟨e,he⟩:=zn (checkPr p);obtain ⟨x,hx⟩:=zn (cntW p.st p.rounds.toNat 0);have HN:Hid (countR p=if 1048576<p.cs.length * x then .tuple #[.int .i64 0,.int .i64 17] else .tuple #[.int .i64 (p.cs.length * x:Nat),.int .i64 0]):=zhd (by rw[hx];rfl);rw[←he]at KC HCL ⊢;rw[←hx]at KN;rw[←he]at KN;obtain ⟨r,hr⟩:=zn (if e=0 then countR p else .tuple #[.int .i64 0,e]);rw[←hr];have HR:Hid ((e≠0→r=.tuple #[.int .i64 0,e])∧(e=0→r=countR p)):=zhd ⟨fun h=>by rw[hr,if_neg h],fun h=>by rw[hr,if_pos h]⟩;clear he hx hs hc hl HCI hr;go_enter Tryz.func94,Tryz.ntmps94;go_wp2_with fail;refine (KC.out _ ex).mono ?_;rintro _ w1 ⟨_,rfl,hb1,rfl⟩;replace R:=R.ext hb1;replace ex:=za ex hb1;clear hb1 KC;by_cases h0:e=0
 case neg=>
  have d0:(e !=0)=true:=by simp[h0]
  have RR:=zhd (HR.out.1 h0);clear h0;go_wp2;go_ret2;exact .mk ex RR.out.symm
 subst h0;have HRC:=zhd (HR.out.2 rfl);obtain ⟨hl1,hl2⟩:=HCL.out rfl;have t3:=R.zc 3 rfl;have t4:=R.zc 4 rfl;have t5:=R.zc 5 rfl;have t6:=R.zc 6 rfl;go_wp2_with fail;refine (KN.out _ ex trivial).mono ?_;rintro _ w2 ⟨_,rfl,hb2,a,b,rfl,hab⟩;replace R:=R.ext hb2;replace ex:=za ex hb2;clear hb2 KN t3 t4 t5 t6;have t3:=R.zc 3 rfl;rcases hab with ⟨hg,rfl,rfl⟩ | ⟨hg,rfl,rfl⟩
 ·have RR:Hid (r=.tuple #[.int .i64 0,.int .i64 17]):=zhd (by rw[HRC.out,HN.out,if_pos];have:1 * x≤p.cs.length * x:=Nat.mul_le_mul_right _ hl1;omega);clear hg;go_wp2;go_ret2;exact .mk ex RR.out.symm
 have hmul:p.cs.length * x≤1024 * 1048577:=Nat.mul_le_mul hl2 (by omega);have hw:IntKind.i64.wrap ((x:Int) * (p.cs.length:Int))=((p.cs.length * x:Nat):Int):=by rw[Int.mul_comm,IntKind.wrap_i64];push_cast;omega
 obtain ⟨m,hm⟩:=zn (p.cs.length * x);rw[←hm]at HN hw;by_cases hgt:1048576<m
 ·have RR:Hid (r=.tuple #[.int .i64 0,.int .i64 17]):=zhd (by rw[HRC.out,HN.out,if_pos hgt]);clear hm hmul hg;go_wp2;go_ret2;exact .mk ex RR.out.symm
 ·have RR:Hid (r=.tuple #[m,.int .i64 0]):=zhd (by rw[HRC.out,HN.out,if_neg hgt]);clear hm hmul hg;go_wp2;go_ret2;exact .mk ex RR.out.symm
abbrev kWord:Kd (List (List Int)):=kSl (kFlat 7)
theorem Zs:(Tryz.prog.info? 153).map (fun i=>(i.zero,i.size,i.bytes))=some (some (.agg #[.int .i64 0,.int .i64 0,.int .i64 0,.int .i64 0,.int .i64 0,.int .i64 0,.int .i64 0]),7,56):=by kernel_rfl
theorem Yq:(Tryz.prog.info? 145).map (fun i=>(i.zero,i.size,i.bytes))=some (some (.slice none 0 0),1,24):=by kernel_rfl
def wordsTo (st:Moves) (k s i:Nat):List (List (List Int)):=((nthM st s).take i).flatMap fun m=>(wordsD st k (nth m 7).toNat).map fun w=>m.take 7::w
theorem zbk (st:Moves) (k s:Nat):wordsTo st k s 0=[]:=rfl
theorem ZQ (st:Moves) (k s:Nat):wordsTo st k s (nthM st s).length=wordsD st (k+1) s:=by unfold wordsTo;rw[List.take_length];rfl
theorem Qb {st:Moves} {k s i:Nat} (h:i<(nthM st s).length):wordsTo st k s (i+1)=wordsTo st k s i++(wordsD st k (nth (nthL (nthM st s) i) 7).toNat).map fun w=>(nthL (nthM st s) i).take 7::w:=by
 unfold wordsTo;rw[yW h,List.flatMap_append];simp
theorem QI {st:Moves} {k s:Nat} (i:Nat):(wordsTo st k s i).length≤cntW st (k+1) s:=by
 rw[←yk,←ZQ];unfold wordsTo;rw[List.take_length];have h:(nthM st s)=(nthM st s).take i++(nthM st s).drop i:=(List.take_append_drop i _).symm
 conv=>rhs;rw[h,List.flatMap_append,List.length_append]
 omega
theorem take7 {m:List Int} (h:m.length=8):m.take 7=[nth m 0,nth m 1,nth m 2,nth m 3,nth m 4,nth m 5,nth m 6]:=by
 match m,h with
 | [a,b,c,d,e,f,g,i],_=>rfl
theorem zgX {st:Moves} {k s i:Nat} (h:i<(nthM st s).length):cntW st k (nth (nthL (nthM st s) i) 7).toNat≤cntW st (k+1) s:=by
 have le_sum:∀(l:List Nat) (x:Nat),x∈l→x≤l.sum:=by
  intro l;induction l with
  | nil=>intro x hx;cases hx
  | cons y r ih=>
   intro x hx;rw[List.sum_cons];rcases List.mem_cons.1 hx with rfl | hx
   ·omega
   ·have:=ih x hx;omega
 rw[ya h];exact le_sum _ _ (List.mem_map.2 ⟨_,List.getElem_mem h,rfl⟩)
def nthW (l:List (List (List Int))) (j:Nat):List (List Int):=l.getD j []
theorem xK {l:List (List (List Int))} {j:Nat} (h:j<l.length):nthW l j=l[j]:=by simp[nthW,h]
theorem Sl.word {S:Nat→Prop} {w W:World} {a:Option Addr} {m cap:Nat} {l:List (List (List Int))} (h:Sl kWord S w (.slice a m cap) l) (hb:Agree S w W) {k:Nat} (hk:k<l.length):
  ∃b c,W.cell? (adr a k)=some (.slice b (nthW l k).length c)∧Sl (kFlat 7) S W (.slice b (nthW l k).length c) (nthW l k):=by
 obtain ⟨v,h1,h2⟩:=(h.agree hb).row hk;rw[←xK hk]at h2;obtain ⟨b,c,rfl,_⟩:=h2.form;exact ⟨b,c,h1,h2⟩
theorem Sl.idxW {S:Nat→Prop} {w:World} {a:Option Addr} {m cap:Nat} {l:List (List (List Int))} (h:Sl kWord S w (.slice a m cap) l):
  Hid (∀k:Nat,k<l.length→∀W:World,(Instr.indexAt 171 (.slice a l.length cap) (.int .i64 k)).run Tryz.prog W=.ok (.pointer (some (adr a k))) W):=by
 obtain ⟨i,hi,_,h1,_⟩:=info_parts Yq;exact zhd (zL Tryz.underlying171 hi h1 h.ad.1)
theorem rd7 {m:List Int} (h:m.length=8) (hw:∀x∈m,WF x) (S:Nat→Prop) (w:World):(kFlat 7).rd S w [nth m 0,nth m 1,nth m 2,nth m 3,nth m 4,nth m 5,nth m 6] (m.take 7):=
 ⟨by simp[h],by rw[take7 h];rfl,fun x hx=>hw x (List.mem_of_mem_take hx)⟩
theorem zac:∀(k:Nat) {S:Nat→Prop} {w:World} {vs:Value} {st:Moves} (n:Int) (hs:Sl (kSl (kFlat 8)) S w vs st) (hok:MovesOK n st) (hl:st.length≤1000) (s:Nat) (hsl:s<st.length) (hk:k≤6) (hc:cntW st k s≤100000),
  Calls Tryz.prog 150 #[.agg #[n,vs],s,k] w (Post w fun w' r=>Sl kWord (fun b=>w.heap.size≤b) w' r (wordsD st k s))
 | 0,S,w,vs,st,n,hs,hok,hl,s,hsl,hk,hc=>by
  obtain ⟨sa,sc,rfl,hm⟩:=hs.addr;clear hs hok;have exb:=zh (ze w (.cells #[n,.slice sa st.length sc] 27)) (.cells #[.slice none 0 0] 145);have R:=zi (w.alloc (.cells #[n,.slice sa st.length sc] 27)) [.slice none 0 0] 145;go_enter Tryz.func150,Tryz.ntmps150;go_wp2;go_ret;rw[World.size_alloc]at R;refine .mk exb ⟨_,_,rfl,.inr ⟨_,0,rfl,R.lt,by simp⟩,Nat.le_refl _,⟨by simp[wordsD,maxLen],by simp[wordsD]⟩,fun j hj=>⟨[.slice none 0 0],fun i hi=>?_,.slice none 0 0,rfl,?_⟩⟩
  ·obtain rfl:j=0:=by simp[wordsD]at hj;omega
   obtain rfl:i=0:=by have:kWord.size=1:=rfl;omega
   have:=R.zc 0 rfl;simpa[adr] using this
  ·obtain rfl:j=0:=by simp[wordsD]at hj;omega
   exact Sl.nil _ _ _
 | k+1,S,w,vs,st,n,hs,hok,hl,s,hsl,hk,hc=>by
  have IH:=zhd fun W (hW:Below w.heap.size w W) to (h1:to<st.length) (h2:cntW st k to≤100000)=>zac k n (hs.ext hW) hok hl to h1 (by omega) h2;obtain ⟨sa,sc,rfl,hm⟩:=hs.addr;have Q:=hs.idxS.out s hsl;have HROW:Hid (∀W,Below w.heap.size w W→∃b c,W.cell? (adr sa s)=some (.slice b (nthM st s).length c)∧Sl (kFlat 8) S W (.slice b (nthM st s).length c) (nthM st s)):=zhd fun W hW=>hs.mrow hW hsl;have HTO:=zhd (hok s hsl).2;have hrl:(nthM st s).length≤140737488355328:=hs.rows_few s hsl;have HNX:=zhd fun i (h:i<(nthM st s).length)=>Qb (k:=k) h;have HAL:=zhd (ZQ st k s);have HCP:=zhd fun i (h:i<(nthM st s).length)=>Nat.le_trans (zgX (k:=k) h) hc;have HLN:=zhd fun i=>Nat.le_trans (QI (st:=st) (k:=k) (s:=s) i) hc;have HBK:=zhd (hs.ad.1);obtain ⟨row,hrow⟩:=zn (nthM st s);rw[←hrow]at HROW HTO hrl HNX HAL HCP;clear hs hok hrow hc;have ex:=ze w (.cells #[n,.slice sa st.length sc] 27);have R:Row (w.alloc (.cells #[n,.slice sa st.length sc] 27)) w.heap.size 27 [n,.slice sa st.length sc]:=zi w [_,_] _;have HO0:=zhd (OwnK.nil kWord 145 (w.heap.size+1) (fun b=>w.heap.size+1≤b) (w.alloc (.cells #[n,.slice sa st.length sc] 27)));have w1':IntKind.i64.wrap (((k+1:Nat):Int) - 1)=(k:Int):=by rw[IntKind.wrap_i64];omega
  have w2':(((k+1:Nat):Int)==0)=false:=by simp;omega
  have w3':decide (((k+1:Nat):Int)=0)=false:=by simp;omega
  obtain ⟨k1,hk1⟩:∃k1:Int,k1=((k+1:Nat):Int):=⟨_,rfl⟩;rw[←hk1]at w1' w2' w3' ⊢;have w4':¬k1=0:=by omega
  clear hk1;go_enter Tryz.func150,Tryz.ntmps150;go_wp2;go_loopw [7,8,9,10,11,12] (fun v i _ _ _ _ wr=>∃i':Nat,i'≤row.length∧i=.int .i64 i'∧Below w.heap.size w wr∧Row wr w.heap.size 27 [n,.slice sa st.length sc]∧∃a c,v=.slice a (wordsTo st k s i').length c∧Hid (OwnK kWord 145 (w.heap.size+1) (fun b=>w.heap.size+1≤b) wr (.slice a (wordsTo st k s i').length c) (wordsTo st k s i'))) (fun _ i _ _ _ _ _=>row.length - (intOf i).toNat)
  case atStart=>exact ⟨0,Nat.zero_le _,rfl,ex,R,none,0,rfl,HO0⟩
  case round=>
   clear ex R HO0;obtain ⟨i,hi,rfl,hb,R,va,vc,rfl,HO⟩:=hrel;have t1:=R.zc 1 rfl;obtain ⟨b,c,cu,hrow⟩:=HROW.out wr hb;by_cases hit:i<row.length
   case neg=>
    obtain rfl:i=row.length:=by omega
    have hfew:=HLN.out row.length;have HF:=zhd (HO.out.sl (by omega));go_wp2;go_ret;refine .mk hb ?_;rw[←HAL.out];exact HF.out.mono fun b hb=>by rcases hb with h | h<;>omega
   have QM:=hrow.idxM.out i hit;have hz:=hrow.nums hit (by decide);have hlen8:=(hrow.num hit).1;have hwf8:=(hrow.num hit).2.1;have z0:=hz.1;have z1:=hz.2 1 (by decide);have z2:=hz.2 2 (by decide);have z3:=hz.2 3 (by decide);have z4:=hz.2 4 (by decide);have z5:=hz.2 5 (by decide);have z6:=hz.2 6 (by decide);have z7:=hz.2 7 (by decide);have hbk:=zZ hrow.ad.1 (by omega) (i * 8);obtain ⟨_,_,hto1,hto2⟩:=HTO.out i hit;have HN:=zhd (HNX.out i hit);have HC:=HCP.out i hit;obtain ⟨m,hm'⟩:∃m,m=nthL row i:=⟨_,rfl⟩;rw[←hm']at z0 z1 z2 z3 z4 z5 z6 z7 hlen8 hwf8 hto1 hto2 HN HC;obtain ⟨to,hto⟩:∃t:Nat,nth m 7=t:=⟨(nth m 7).toNat,by omega⟩;have HRD:=zhd (rd7 hlen8 hwf8);have HT7:=zhd (take7 hlen8);rw[hto,Int.toNat_natCast]at HN HC;have htl:to<st.length:=by omega
   have HTO7:=zhd hto;have RM:=zi wr [nth m 0,nth m 1,nth m 2,nth m 3,nth m 4,nth m 5,nth m 6,nth m 7] 155;have ex2:=zh hb (.cells #[nth m 0,nth m 1,nth m 2,nth m 3,nth m 4,nth m 5,nth m 6,nth m 7] 155);have R2:=R.alloc (.cells #[nth m 0,nth m 1,nth m 2,nth m 3,nth m 4,nth m 5,nth m 6,nth m 7] 155);have HO2:=zhd (HO.out.ext (ze wr (.cells #[nth m 0,nth m 1,nth m 2,nth m 3,nth m 4,nth m 5,nth m 6,nth m 7] 155)));have KF:=zhd (IH.out _ ex2 to htl HC);rw[←hto]at KF;have hown:=HO.out.lt;have hRl:=R.lt;have m7:(wr.alloc (.cells #[nth m 0,nth m 1,nth m 2,nth m 3,nth m 4,nth m 5,nth m 6,nth m 7] 155)).cell? ⟨wr.heap.size,7,none⟩=some (.int .i64 (nth m 7)):=RM.zc 7 rfl;have t0':=R2.zc 0 rfl;have t1':=R2.zc 1 rfl;clear hz hm' hto hto1 hto2 hrow hb R HO;go_wp2_with fail;refine KF.out.mono ?_;rintro _ w2 ⟨rv,rfl,hb2,hrs⟩;obtain ⟨ra,rc,rfl,_,_,_,rfew⟩:=hrs.form2;rw[World.size_alloc]at hrs;have HRS:=zhd hrs.block;have QW:=hrs.idxW;have hw2:=hb2.size;rw[World.size_alloc]at hw2;have R3:=R2.ext hb2;have RM3:=RM.ext hb2;have ex3:=za ex2 hb2;have HO3:=zhd (HO2.out.ext hb2);obtain ⟨W,hW⟩:=zn (wordsD st k to);have HWL:Hid (∀j,j<W.length→(nthW W j).length≤6):=zhd fun j hj=>by
    have:=Zb st k to (nthW W j) (by rw[←hW,xK hj];exact List.getElem_mem hj);omega
   obtain ⟨acc,hacc⟩:∃acc:Nat→List (List (List Int)),acc=fun j=>wordsTo st k s i++(W.take j).map fun x=>m.take 7::x:=⟨_,rfl⟩;have HA0:Hid (acc 0=wordsTo st k s i):=zhd (by rw[hacc];simp);have HAE:Hid (acc W.length=wordsTo st k s (i+1)):=zhd (by rw[hacc,HN.out,←hW];simp);have HAN:Hid (∀j,j<W.length→acc (j+1)=acc j++[m.take 7::nthW W j]):=zhd fun j hj=>by
    rw[hacc];dsimp only;rw[←List.take_append_getElem hj,List.map_append,xK hj,List.append_assoc];rfl
   have HAF:Hid (∀j,j≤W.length→(acc j).length≤100000):=zhd fun j hj=>by
    have h1:=HLN.out (i+1);rw[←HAE.out,hacc]at h1;rw[hacc];simp only[List.length_append,List.length_map,List.length_take]at h1 ⊢;omega
   rw[←hW]at HRS QW rfew ⊢;rw[←HA0.out]at HO3 ⊢;obtain ⟨MB,hMB⟩:=zn wr.heap.size;have hne:∀g,(Value.slice va (acc 0).length vc).ownBlock=some g→¬(fun b=>b=MB∨(MB+1≤b∧b<w2.heap.size)) g:=fun g hg hp=>by
    have h1:=hown g (by rw[←hg,HA0.out]);rcases hp with h | h<;>omega
   rw[←hMB]at hw2 HRS RM3 ⊢;clear R2 RM ex2 HO2 hb2 KF hown hRl hrs hW hacc m7 t0' t1' t1 cu z0 z1 z2 z3 z4 z5 z6 z7 QM hbk hMB;go_wp2;go_loopw [7,11,12] (fun v i _ wr=>∃j:Nat,j≤W.length∧i=.int .i64 j∧Below w.heap.size w wr∧Row wr w.heap.size 27 [n,.slice sa st.length sc]∧Row wr MB 155 [nth m 0,nth m 1,nth m 2,nth m 3,nth m 4,nth m 5,nth m 6,nth m 7]∧Agree (fun b=>b=MB∨(MB+1≤b∧b<w2.heap.size)) w2 wr∧∃a c,v=.slice a (acc j).length c∧Hid (OwnK kWord 145 (w.heap.size+1) (fun b=>w.heap.size+1≤b) wr (.slice a (acc j).length c) (acc j))∧(∀g,(Value.slice a (acc j).length c).ownBlock=some g→¬(fun b=>b=MB∨(MB+1≤b∧b<w2.heap.size)) g)) (fun _ i _ _=>W.length - (intOf i).toNat)
   case atStart=>exact ⟨0,Nat.zero_le _,rfl,ex3,R3,RM3,.refl _ _,va,vc,rfl,HO3,hne⟩
   case round=>
    clear R3 RM3 ex3 HO3 hne;obtain ⟨j,hj,rfl,hb,R,RM,hag,va,vc,rfl,HO,hne⟩:=hrel;by_cases hjt:j<W.length
    case neg=>
     obtain rfl:j=W.length:=by omega
     rw[HAE.out]at HO ⊢;go_wp2;go_roundw
     case rel=>exact ⟨i+1,by omega,by go_num,hb,R,va,vc,rfl,HO⟩
     case measure=>simp[intOf];omega
    have qw:=QW.out j hjt;obtain ⟨b2,c2,cu2,hw⟩:=HRS.out.word (hag.mono fun b hb=>.inr ⟨hb.1,hb.2⟩) hjt;obtain ⟨news,hnl,hnc,hnp,hno⟩:=hw.parts;have hle6:=HWL.out j hjt;have hrow1:=zi wr [nth m 0,nth m 1,nth m 2,nth m 3,nth m 4,nth m 5,nth m 6] 153;have hadd:=hw.ad.1;have hbk2:=World.block_lt_of_cell? _ _ cu2;have OW:=zhd (hrow1.ownsW (base:=wr.heap.size) (z:=7) (n:=1) (Nat.le_refl _) rfl (by simp[maxLen]));have had:=zhd ((hadd.mono (S':=fun _=>True) fun _ _=>trivial).agree (w':=wr.alloc (.cells #[nth m 0,nth m 1,nth m 2,nth m 3,nth m 4,nth m 5,nth m 6] 153)) (.of_ext (ze _ _)));have hnc:Hid (∀q,q<(nthW W j).length * 7→(wr.alloc (.cells #[nth m 0,nth m 1,nth m 2,nth m 3,nth m 4,nth m 5,nth m 6] 153)).cell? (adr b2 q)=some (news.getD q undef)):=zhd fun q hq=>zm (hnc q hq) (ze _ _);have hnl:=zhd hnl;have hno:=zhd hno;have hwN:w.heap.size+1≤wr.heap.size:=R.lt;have hol:=HO.out.lt;have HY:Hid (∀v5 w5,w5.ownsRow wr.heap.size 153 7 v5 (1+(nthW W j).length) ([.int .i64 (nth m 0),.int .i64 (nth m 1),.int .i64 (nth m 2),.int .i64 (nth m 3),.int .i64 (nth m 4),.int .i64 (nth m 5),.int .i64 (nth m 6)]++news)→Below wr.heap.size (wr.alloc (.cells #[nth m 0,nth m 1,nth m 2,nth m 3,nth m 4,nth m 5,nth m 6] 153)) w5→kWord.rd (fun b=>w.heap.size+1≤b∧(Value.slice va (acc j).length vc).ownBlock≠some b) w5 [v5] (m.take 7::nthW W j)):=zhd fun v5 w5 ho hb5=>by
     refine ⟨v5,rfl,?_⟩;have hK:OwnK (kFlat 7) 153 wr.heap.size (fun _=>False) w5 v5 (m.take 7::nthW W j):=OwnK.cons (by rw[Nat.add_comm];exact ho) (HRD.out _ _) fun q hq=>by
      have:=hnp q hq;exact this
     refine (hK.sl (by simp;omega)).mono fun b hb=>?_;rcases hb with h | h
     ·exact h.elim
     ·exact ⟨by omega,fun e=>by have:=(hol b e).2;omega⟩
    have HBY:Hid (((acc j).length+1) * 24≤140737488355328):=zhd (by have:=HAF.out j hj;omega);have HBN:Hid ((acc j).length<9223372036854775807):=zhd (by have:=HAF.out j hj;omega);have m0:=RM.zc 0 rfl;have m1:=RM.zc 1 rfl;have m2:=RM.zc 2 rfl;have m3:=RM.zc 3 rfl;have m4:=RM.zc 4 rfl;have m5:=RM.zc 5 rfl;have m6:=RM.zc 6 rfl;have hMl:=RM.lt;clear hrow1 hadd hol hw hnp;go_wp2_with (first | (at_builtin;refine yC rfl (.tmp 50) (.tmp 54) 145 rfl 153 _ 7 56 Tryz.underlying145 Zs rfl (by decide) wr.heap.size _ 1 [nth m 0,nth m 1,nth m 2,nth m 3,nth m 4,nth m 5,nth m 6] rfl OW.out (fun _=>True) b2 (nthW W j).length c2 news rfl had.out hnl.out hnc.out hno.out (by omega) (by omega) (by simp) ?_;intro v5 w5 ho5 hb5 hag5 hv5;have hB5:=(ze wr (.cells #[nth m 0,nth m 1,nth m 2,nth m 3,nth m 4,nth m 5,nth m 6] 153)).trans hb5;have HO5:=zhd (HO.out.ext hB5);have hY5:=HY.out v5 w5 ho5 hb5;have hs5:=hB5.size;obtain ⟨g5,c5,rfl⟩:=Zk ho5 (by omega);have HY5:=zhd hY5;clear ho5 hag5 hv5 hY5) | (at_builtin;refine yK (K:=kWord) (v:=.slice va (acc j).length vc) (l:=acc j) (S:=fun b=>w.heap.size+1≤b) (base:=w.heap.size+1) rfl (.tmp 49) (.tmp 56) 171 rfl 145 _ 24 Tryz.underlying171 Yq rfl (by decide) rfl HO5.out (cs:=[.slice (some ⟨g5,0,none⟩) (1+(nthW W j).length) c5]) rfl HY5.out HBY.out HBN.out (by omega) ?_;intro g6 c6 w6 ho6 hb6 hag6 hg6));have hagP:=hag6 (fun b=>b=MB∨(MB+1≤b∧b<w2.heap.size)) hne;have HLE:Hid ((acc (j+1)).length=(acc j).length+1):=zhd (by rw[HAN.out j hjt,List.length_append];rfl);have HO6:Hid (OwnK kWord 145 (w.heap.size+1) (fun b=>w.heap.size+1≤b) w6 (.slice (some ⟨g6,0,none⟩) (acc (j+1)).length c6) (acc (j+1))):=zhd (by rw[HLE.out,HAN.out j hjt];exact ho6);have hne6:∀g,(Value.slice (some ⟨g6,0,none⟩) (acc (j+1)).length c6).ownBlock=some g→¬(fun b=>b=MB∨(MB+1≤b∧b<w2.heap.size)) g:=fun g hg hp=>by
     have e3:g6=g:=by simpa[Value.ownBlock] using hg
     subst e3;rcases hg6 with h | h
     ·exact hne _ h hp
     ·have:=hag.size;rcases hp with h1 | h1<;>omega
    have hb9:=hb.trans ((hB5.mono (by omega)).trans (hb6.mono (Nat.le_succ _)));have R9:=za0 (R.ext hB5) hb6;have RM9:=(RM.ext hB5).agree hagP (.inl rfl);have hag9:=hag.trans ((Agree.of_ext hB5).trans hagP);clear hag6 ho6 hg6 hb6 HO HO5 R RM hag hB5;go_wp2;go_roundw
    case rel=>exact ⟨j+1,by omega,by go_num,hb9,R9,RM9,hag9,_,_,(by rw[HLE.out]),HO6,hne6⟩
    case measure=>simp[intOf];omega
theorem xl:(Tryz.prog.info? 157).map (fun i=>(i.zero,i.size,i.bytes))=some (some (.agg #[.slice none 0 0,.slice none 0 0,.slice none 0 0]),3,72):=by kernel_rfl
theorem YP:(Tryz.prog.info? 155).map (fun i=>(i.zero,i.size,i.bytes))=some (some (.agg #[.int .i64 0,.int .i64 0,.int .i64 0,.int .i64 0,.int .i64 0,.int .i64 0,.int .i64 0,.int .i64 0]),8,64):=by kernel_rfl
theorem Y8 {S:Nat→Prop} {w:World} {v:Value} {l:List (List Int)} (h:Sl (kFlat 7) S w v l) (hn:l.length≤1000000):
  Calls Tryz.prog 98 #[v] w (Post w fun w' r=>OwnK (kFlat 7) 153 w.heap.size (fun b=>S b∧b<w.heap.size) w' r l):=by
 obtain ⟨a,cap,rfl,ad,l1,l2,l3⟩:=h.form2;cases a with
 | none=>
  have h0:l.length=0∧cap=0:=by
   rcases ad with h | ⟨b,off,e,_⟩
   ·exact h
   ·cases e
  obtain ⟨h0,rfl⟩:=h0;obtain rfl:l=[]:=List.length_eq_zero_iff.1 h0;clear h ad l1 l2 l3 h0;have hn1:=@Lib.run_eql_slice_nil Tryz.prog w 145 153 none 0 0 0 0 Tryz.underlying145;go_enter Tryz.func98,Tryz.ntmps98;go_wp2;go_ret;exact .mk (.refl _ _) (OwnK.nil _ _ _ _ _)
 | some x=>
  have ex:=ze w (.cells #[] 153);have hown0:=(zi w [] 153).ownsW (base:=w.heap.size) (z:=7) (n:=0) (Nat.le_refl _) rfl (by simp[maxLen]);have OW:=zhd hown0;obtain ⟨xs,x1,x2,x3,x4⟩:=h.block.parts;have X1:=zhd x1;have X3:=zhd x3;have X4:=zhd x4;have AD:=zhd (ad.agree (.of_ext ex));have X2:Hid (∀j,j<l.length * 7→(w.alloc (.cells #[] 153)).cell? (adr (some x) j)=some (xs.getD j undef)):=zhd fun j hj=>zm (x2 j hj) ex;have B1:Hid ((0+l.length) * 56≤140737488355328):=zhd (by omega);clear hown0 h ad x1 x2 x3 x4;have hn1:=@Lib.run_eql_slice_nil Tryz.prog w 145 153 (some x) l.length cap 0 0 Tryz.underlying145;go_enter Tryz.func98,Tryz.ntmps98;go_wp2_with (at_builtin;refine yC rfl (.tmp 5) (.tmp 6) 145 rfl 153 _ 7 56 Tryz.underlying145 Zs rfl (by decide) w.heap.size (.slice (some ⟨w.heap.size,0,none⟩) 0 0) 0 [] rfl OW.out S (some x) l.length cap xs rfl AD.out X1.out X2.out X4.out B1.out (by omega) (by simp) ?_;intro v3 w3 hown3 hb3 hag3 hv3);rw[Nat.zero_add,List.nil_append]at hown3;have hbb:Below w.heap.size w w3:=ex.trans hb3;have HO:=zhd hown3;have hlt3:=hown3.lt;clear hown3 hag3 hv3 hb3;go_wp2;go_ret;refine .mk hbb ⟨xs,HO.out,fun j hj=>?_⟩;exact Kd.mono _ (Kd.agree _ (X3.out j hj) (.of_ext hbb)) fun b hb=>⟨hb,fun e=>by have:=(hlt3 b e).1;omega⟩
theorem zck {S:Nat→Prop} {w:World} {v:Value} {l:List CaseD} (h:Sl kCase S w v l) (hn:l.length≤1000000):
  Calls Tryz.prog 130 #[v] w (Post w fun w' r=>OwnK kCase 157 w.heap.size (fun b=>S b∧b<w.heap.size) w' r l):=by
 obtain ⟨a,cap,rfl,ad,l1,l2,l3⟩:=h.form2;cases a with
 | none=>
  have h0:l.length=0∧cap=0:=by
   rcases ad with h | ⟨b,off,e,_⟩
   ·exact h
   ·cases e
  obtain ⟨h0,rfl⟩:=h0;obtain rfl:l=[]:=List.length_eq_zero_iff.1 h0;clear h ad l1 l2 l3 h0;have hn1:=@Lib.run_eql_slice_nil Tryz.prog w 22 157 none 0 0 0 0 Tryz.underlying22;go_enter Tryz.func130,Tryz.ntmps130;go_wp2;go_ret;exact .mk (.refl _ _) (OwnK.nil _ _ _ _ _)
 | some x=>
  have ex:=ze w (.cells #[] 157);have hown0:=(zi w [] 157).ownsW (base:=w.heap.size) (z:=3) (n:=0) (Nat.le_refl _) rfl (by simp[maxLen]);have OW:=zhd hown0;obtain ⟨xs,x1,x2,x3,x4⟩:=h.block.parts;have X1:=zhd x1;have X3:=zhd x3;have X4:=zhd x4;have AD:=zhd (ad.agree (.of_ext ex));have X2:Hid (∀j,j<l.length * 3→(w.alloc (.cells #[] 157)).cell? (adr (some x) j)=some (xs.getD j undef)):=zhd fun j hj=>zm (x2 j hj) ex;have B1:Hid ((0+l.length) * 72≤140737488355328):=zhd (by omega);clear hown0 h ad x1 x2 x3 x4;have hn1:=@Lib.run_eql_slice_nil Tryz.prog w 22 157 (some x) l.length cap 0 0 Tryz.underlying22;go_enter Tryz.func130,Tryz.ntmps130;go_wp2_with (at_builtin;refine yC rfl (.tmp 5) (.tmp 6) 22 rfl 157 _ 3 72 Tryz.underlying22 xl rfl (by decide) w.heap.size (.slice (some ⟨w.heap.size,0,none⟩) 0 0) 0 [] rfl OW.out S (some x) l.length cap xs rfl AD.out X1.out X2.out X4.out B1.out (by omega) (by simp) ?_;intro v3 w3 hown3 hb3 hag3 hv3);rw[Nat.zero_add,List.nil_append]at hown3;have hbb:Below w.heap.size w w3:=ex.trans hb3;have HO:=zhd hown3;have hlt3:=hown3.lt;clear hown3 hag3 hv3 hb3;go_wp2;go_ret;refine .mk hbb ⟨xs,HO.out,fun j hj=>?_⟩;exact Kd.mono _ (Kd.agree _ (X3.out j hj) (.of_ext hbb)) fun b hb=>⟨hb,fun e=>by have:=(hlt3 b e).1;omega⟩
theorem zb3 {S:Nat→Prop} {w:World} {v:Value} {l:Moves} (h:Sl (kSl (kFlat 8)) S w v l) (hn:l.length≤1000000):
  Calls Tryz.prog 132 #[v] w (Post w fun w' r=>OwnK (kSl (kFlat 8)) 149 w.heap.size (fun b=>S b∧b<w.heap.size) w' r l):=by
 obtain ⟨a,cap,rfl,ad,l1,l2,l3⟩:=h.form2;cases a with
 | none=>
  have h0:l.length=0∧cap=0:=by
   rcases ad with h | ⟨b,off,e,_⟩
   ·exact h
   ·cases e
  obtain ⟨h0,rfl⟩:=h0;obtain rfl:l=[]:=List.length_eq_zero_iff.1 h0;clear h ad l1 l2 l3 h0;have hn1:=@Lib.run_eql_slice_nil Tryz.prog w 25 149 none 0 0 0 0 Tryz.underlying25;go_enter Tryz.func132,Tryz.ntmps132;go_wp2;go_ret;exact .mk (.refl _ _) (OwnK.nil _ _ _ _ _)
 | some x=>
  have ex:=ze w (.cells #[] 149);have hown0:=(zi w [] 149).ownsW (base:=w.heap.size) (z:=1) (n:=0) (Nat.le_refl _) rfl (by simp[maxLen]);have OW:=zhd hown0;obtain ⟨xs,x1,x2,x3,x4⟩:=h.block.parts;have X1:=zhd x1;have X3:=zhd x3;have X4:=zhd x4;have AD:=zhd (ad.agree (.of_ext ex));have X2:Hid (∀j,j<l.length * 1→(w.alloc (.cells #[] 149)).cell? (adr (some x) j)=some (xs.getD j undef)):=zhd fun j hj=>zm (x2 j hj) ex;have B1:Hid ((0+l.length) * 24≤140737488355328):=zhd (by omega);clear hown0 h ad x1 x2 x3 x4;have hn1:=@Lib.run_eql_slice_nil Tryz.prog w 25 149 (some x) l.length cap 0 0 Tryz.underlying25;go_enter Tryz.func132,Tryz.ntmps132;go_wp2_with (at_builtin;refine yC rfl (.tmp 5) (.tmp 6) 25 rfl 149 _ 1 24 Tryz.underlying25 Xr rfl (by decide) w.heap.size (.slice (some ⟨w.heap.size,0,none⟩) 0 0) 0 [] rfl OW.out S (some x) l.length cap xs rfl AD.out X1.out X2.out X4.out B1.out (by omega) (by simp) ?_;intro v3 w3 hown3 hb3 hag3 hv3);rw[Nat.zero_add,List.nil_append]at hown3;have hbb:Below w.heap.size w w3:=ex.trans hb3;have HO:=zhd hown3;have hlt3:=hown3.lt;clear hown3 hag3 hv3 hb3;go_wp2;go_ret;refine .mk hbb ⟨xs,HO.out,fun j hj=>?_⟩;exact Kd.mono _ (Kd.agree _ (X3.out j hj) (.of_ext hbb)) fun b hb=>⟨hb,fun e=>by have:=(hlt3 b e).1;omega⟩
theorem zb7 {S:Nat→Prop} {w:World} {v:Value} {l:List (List Int)} (h:Sl (kFlat 8) S w v l) (hn:l.length≤1000000):
  Calls Tryz.prog 133 #[v] w (Post w fun w' r=>OwnK (kFlat 8) 155 w.heap.size (fun b=>S b∧b<w.heap.size) w' r l):=by
 obtain ⟨a,cap,rfl,ad,l1,l2,l3⟩:=h.form2;cases a with
 | none=>
  have h0:l.length=0∧cap=0:=by
   rcases ad with h | ⟨b,off,e,_⟩
   ·exact h
   ·cases e
  obtain ⟨h0,rfl⟩:=h0;obtain rfl:l=[]:=List.length_eq_zero_iff.1 h0;clear h ad l1 l2 l3 h0;have hn1:=@Lib.run_eql_slice_nil Tryz.prog w 149 155 none 0 0 0 0 Tryz.underlying149;go_enter Tryz.func133,Tryz.ntmps133;go_wp2;go_ret;exact .mk (.refl _ _) (OwnK.nil _ _ _ _ _)
 | some x=>
  have ex:=ze w (.cells #[] 155);have hown0:=(zi w [] 155).ownsW (base:=w.heap.size) (z:=8) (n:=0) (Nat.le_refl _) rfl (by simp[maxLen]);have OW:=zhd hown0;obtain ⟨xs,x1,x2,x3,x4⟩:=h.block.parts;have X1:=zhd x1;have X3:=zhd x3;have X4:=zhd x4;have AD:=zhd (ad.agree (.of_ext ex));have X2:Hid (∀j,j<l.length * 8→(w.alloc (.cells #[] 155)).cell? (adr (some x) j)=some (xs.getD j undef)):=zhd fun j hj=>zm (x2 j hj) ex;have B1:Hid ((0+l.length) * 64≤140737488355328):=zhd (by omega);clear hown0 h ad x1 x2 x3 x4;have hn1:=@Lib.run_eql_slice_nil Tryz.prog w 149 155 (some x) l.length cap 0 0 Tryz.underlying149;go_enter Tryz.func133,Tryz.ntmps133;go_wp2_with (at_builtin;refine yC rfl (.tmp 5) (.tmp 6) 149 rfl 155 _ 8 64 Tryz.underlying149 YP rfl (by decide) w.heap.size (.slice (some ⟨w.heap.size,0,none⟩) 0 0) 0 [] rfl OW.out S (some x) l.length cap xs rfl AD.out X1.out X2.out X4.out B1.out (by omega) (by simp) ?_;intro v3 w3 hown3 hb3 hag3 hv3);rw[Nat.zero_add,List.nil_append]at hown3;have hbb:Below w.heap.size w w3:=ex.trans hb3;have HO:=zhd hown3;have hlt3:=hown3.lt;clear hown3 hag3 hv3 hb3;go_wp2;go_ret;refine .mk hbb ⟨xs,HO.out,fun j hj=>?_⟩;exact Kd.mono _ (Kd.agree _ (X3.out j hj) (.of_ext hbb)) fun b hb=>⟨hb,fun e=>by have:=(hlt3 b e).1;omega⟩
end Go.Proofs.YtiabbjolepnjkaaGreat
