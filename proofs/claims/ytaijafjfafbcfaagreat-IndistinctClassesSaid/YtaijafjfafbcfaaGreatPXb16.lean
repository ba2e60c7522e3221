/- Part of the proof that the laws answer true for every input. -/
import Derived.Test.YtaijafjfafbcfaaGreatPXb14
import Derived.Test.YtaijafjfafbcfaaGreatPXb15
import Derived.Test.YtaijafjfafbcfaaGreatPXb13
set_option linter.unusedSimpArgs false
set_option linter.unnecessarySimpa false
set_option linter.unusedVariables false
set_option maxRecDepth 100000
set_option maxHeartbeats 40000000
namespace Go.Proofs.YtaijafjfafbcfaaGreat
open Go.RowKit Go.Shelf
attribute [local go_sem ↓] Go.wp_at_zero Go.wp_at_succ
attribute [local go_sem] Oper.semAt_some
def sumF (st:Moves) (k:Nat) (pre:List (Nat×List Int)) (s:Nat):Nat:=((pre.filter fun x=>x.1==s).map fun x=>cntW st k (nth x.2 7).toNat).sum
theorem sumF_nil (st:Moves) (k s:Nat):sumF st k [] s=0:=rfl
theorem sumF_snoc (st:Moves) (k:Nat) (pre:List (Nat×List Int)) (x:Nat×List Int) (s:Nat):sumF st k (pre++[x]) s=sumF st k pre s+if s=x.1 then cntW st k (nth x.2 7).toNat else 0:=by
 unfold sumF
 rw[List.filter_append,List.map_append,List.sum_append]
 congr 1
 by_cases h:s=x.1
 ·rw[if_pos h,h];simp
 ·rw[if_neg h]
  have:(x.1==s)=false:=by simp;exact fun e=>h e.symm
  simp[List.filter,this]
theorem sumF_pairs (st:Moves) (k s:Nat):∀n,n≤st.length→sumF st k (pairsTo st n) s=if s<n then cntW st (k+1) s else 0
 | 0,_=>rfl
 | n+1,h=>by
  have ih:=sumF_pairs st k s n (by omega)
  rw[pairsTo_succ]
  unfold sumF at ih ⊢
  rw[List.filter_append,List.map_append,List.sum_append,ih]
  by_cases e:s=n
  ·subst e
   rw[if_neg (by omega),if_pos (by omega),Nat.zero_add,List.filter_eq_self.2 (by intro a ha;obtain ⟨m,_,rfl⟩:=List.mem_map.1 ha;simp),List.map_map]
   rfl
  ·have:(((nthM st n).map fun m=>(n,m)).filter fun x=>x.1==s)=[]:=by
    rw[List.filter_eq_nil_iff]
    intro a ha
    obtain ⟨m,_,rfl⟩:=List.mem_map.1 ha
    simp;omega
   rw[this]
   simp only[List.map_nil,List.sum_nil,Nat.add_zero]
   by_cases h1:s<n
   ·rw[if_pos h1,if_pos (by omega)]
   ·rw[if_neg h1,if_neg (by omega)]
def accL (st:Moves) (k L n:Nat) (pre:List (Nat×List Int)):List Int:=(List.range n).map fun s=>((min (sumF st k pre s) (L+1):Nat):Int)
theorem accL_len (st:Moves) (k L n:Nat) (pre:List (Nat×List Int)):(accL st k L n pre).length=n:=by simp[accL]
theorem accL_nil (st:Moves) (k L n:Nat):accL st k L n []=List.replicate n 0:=by
 apply List.ext_getElem (by simp[accL])
 intro i h1 h2
 simp[accL,sumF_nil]
theorem nth_accL {st:Moves} {k L n s:Nat} {pre:List (Nat×List Int)} (h:s<n):nth (accL st k L n pre) s=((min (sumF st k pre s) (L+1):Nat):Int):=by simp[nth,accL,h]
theorem accL_all (st:Moves) (k L:Nat):accL st k L st.length (pairsM st)=cntsL st (k+1) L st.length:=by
 unfold accL cntsL
 apply List.map_congr_left
 intro s hs
 rw[←pairsTo_all,sumF_pairs st k s _ (Nat.le_refl _),if_pos (List.mem_range.1 hs)]
 rfl
theorem accL_snoc {st:Moves} {k L n:Nat} {pre:List (Nat×List Int)} {x:Nat×List Int} {v:Nat} (hx:x.1<n) (hv:v=min (min (sumF st k pre x.1) (L+1)+cutW st k L (nth x.2 7).toNat) (L+1)):(accL st k L n pre).set x.1 (v:Int)=accL st k L n (pre++[x]):=by
 apply List.ext_getElem (by simp[accL])
 intro i h1 h2
 rw[List.getElem_set]
 simp only[accL,List.getElem_map,List.getElem_range,sumF_snoc]
 by_cases e:x.1=i
 ·subst e
  rw[if_pos rfl,if_pos rfl,hv]
  unfold cutW
  rw[cut_add]
 ·rw[if_neg e,if_neg (fun h=>e h.symm)];rfl
theorem OwnInts.low {w:World} {base base' n:Nat} {e:TypeId} {v:Value} {xs:List Value} {z:Nat} (h:w.ownsRow base e z v n xs) (hb:base'≤base):w.ownsRow base' e z v n xs:=by
 refine ⟨h.1,?_⟩
 rcases h.2 with hn | ⟨g,cap,cur,rfl,h1,h2,r⟩
 ·exact .inl hn
 ·exact .inr ⟨g,cap,cur,rfl,Nat.le_trans hb h1,h2,r⟩
theorem Cnts.agreeT {base:Nat} {T:Nat→Prop} {W W':World} {v:Value} {l:List Int} (h:Cnts base W v l) (hw:Agree T W W') (hT:∀g,v.ownBlock=some g→T g):Cnts base W' v l:=owns_agree h hw hT
theorem Cnts.form {base:Nat} {W:World} {v:Value} {l:List Int} (h:Cnts base W v l):∃a c,v=.slice a l.length c∧c≤maxLen:=by
 rcases (h:W.ownsRow base 3 1 _ _ _).2 with ⟨rfl,h0⟩ | ⟨g,cap,cur,rfl,hb,hg,hnc,hcm,_⟩
 ·exact ⟨none,0,by rw[h0],by simp[maxLen]⟩
 ·exact ⟨_,cap,rfl,hcm⟩
theorem pnum_calls {S:Nat→Prop} {w:World} {vs:Value} {st:Moves} (n:Int) (hs:Sl (kSl (kFlat 8)) S w vs st) (hok:MovesOK n st) (h1:1≤st.length) (hl:st.length≤1000) (K L:Nat) (hK:K≤6) (hL:L≤1048576):
  Calls Tryz.prog 120 #[.agg #[.int .i64 n,vs],.int .i64 K,.int .i64 L] w (Post w fun _ r=>r=.int .i64 (cutW st K L 0:Nat)):=by
 obtain ⟨sa,sc,rfl,hm⟩:=hs.addr
 have HS:=Lib.hid hs.block
 have HOK:=Lib.hid hok
 clear hs hok
 have ex:Below w.heap.size w (((w.alloc (.cells #[.int .i64 n,.slice sa st.length sc] 27)).alloc (.cells #[.int .i64 L] 3)).alloc (.cells #[.int .i64 1] 3)):=ext_alloc' (ext_alloc' (ext_alloc w _) _) _
 have RA:Row (((w.alloc (.cells #[.int .i64 n,.slice sa st.length sc] 27)).alloc (.cells #[.int .i64 L] 3)).alloc (.cells #[.int .i64 1] 3)) w.heap.size 27 [.int .i64 n,.slice sa st.length sc]:=((row_new w [_,_] _).alloc _).alloc _
 have RL:Row (((w.alloc (.cells #[.int .i64 n,.slice sa st.length sc] 27)).alloc (.cells #[.int .i64 L] 3)).alloc (.cells #[.int .i64 1] 3)) (w.heap.size+1) 3 [.int .i64 L]:=by
  have:=(row_new (w.alloc (.cells #[.int .i64 n,.slice sa st.length sc] 27)) [.int .i64 L] 3).alloc (.cells #[.int .i64 1] 3)
  rwa [World.size_alloc]at this
 have I1:=lit_ints ((w.alloc (.cells #[.int .i64 n,.slice sa st.length sc] 27)).alloc (.cells #[.int .i64 L] 3)) (w.heap.size+1+1) (by simp) [1] 3 (by decide) (by decide)
 have KR:=Lib.hid (repeat_calls I1 st.length (by omega))
 clear I1
 refine (callsIn_wide (n:=6)).1 ?_
 refine callsIn_of_wp_marks Tryz.func120 rfl trivial ?_ rfl
 simp only[Tryz.ntmps120,List.size_toArray,List.length_cons,List.length_nil,Nat.reduceAdd,Nat.reduceSub,Array.replicate_succ,Array.replicate_zero,List.push_toArray,List.append_toArray,List.nil_append,List.cons_append]
 refine wpIn_wide.2 ?_
 go_wp2_with fail
 refine KR.out.mono ?_
 rintro _ w1 ⟨cv,rfl,hb1,hcv⟩
 have hx1:=ext_trans ex hb1
 replace RA:=RA.ext hb1
 replace RL:=RL.ext hb1
 have HC:Cnts (w.heap.size+2) w1 cv (cntsL st 0 L st.length):=by
  unfold OwnInts at hcv
  unfold Cnts
  rw[cntsL_zero]
  exact OwnInts.low hcv (by simp)
 obtain ⟨ca,cc,rfl,_⟩:=HC.form
 rw[cntsL_len]at HC ⊢
 have hlt1:=hx1.size
 have hlA:=RA.lt
 have hlL:=RL.lt
 have RC:=row_new w1 [.slice ca st.length cc] 44
 replace RA:=RA.alloc (.cells #[.slice ca st.length cc] 44)
 replace RL:=RL.alloc (.cells #[.slice ca st.length cc] 44)
 have hown:=HC.lt
 replace HC:=Lib.hid (HC.ext (ext_alloc w1 (.cells #[.slice ca st.length cc] 44)))
 have hx2:=ext_alloc' hx1 (.cells #[.slice ca st.length cc] 44)
 obtain ⟨CB,hCB⟩:∃CB,CB=w1.heap.size:=⟨_,rfl⟩
 have hne:∀g,(Value.slice ca st.length cc).ownBlock=some g→g≠CB:=fun g hg=>by have:=(hown g hg).2;omega
 have hCB2:w.heap.size+2≤CB:=by omega
 rw[←hCB]at RC
 clear ex hb1 hx1 hcv KR hlt1 hown hlA hlL
 go_wp2
 rw[←hCB]
 clear hCB
 refine wp_loop (fun a' wr=>∃(ds:List Deferred) (u8 u9 u10 u17 u18 u19 u20 u21 u22 u23 u26 u27 u28 u29 u30 u31 u32 u33 u34 u35 u36 u37 u38 u39 u40 u41 u42 u43:Value),(∃k:Nat,k≤K∧u17=.int .i64 k∧Below w.heap.size w wr∧Row wr w.heap.size 27 [.int .i64 n,.slice sa st.length sc]∧Row wr (w.heap.size+1) 3 [.int .i64 L]∧Marks w.heap.size wr ds∧∃a c,Row wr CB 44 [.slice a st.length c]∧Hid (Cnts (w.heap.size+2) wr (.slice a st.length c) (cntsL st k L st.length))∧∀g,(Value.slice a st.length c).ownBlock=some g→g≠CB)∧a'={tmps:=#[.agg #[.int .i64 n,.slice sa st.length sc],.int .i64 K,.int .i64 L,.pointer (some ⟨w.heap.size,0,none⟩),undef,.pointer (some ⟨w.heap.size+1,0,none⟩),.int .i64 0,.pointer (some ⟨CB,0,none⟩),u8,u9,u10,.slice (some ⟨w.heap.size+1+1,0,none⟩) 1 1,.pointer (some ⟨w.heap.size,1,none⟩),.slice sa st.length sc,.int .i64 st.length,.slice ca st.length cc,.int .i64 K,u17,u18,u19,u20,u21,u22,u23,undef,undef,u26,u27,u28,u29,u30,u31,u32,u33,u34,u35,u36,u37,u38,u39,u40,u41,u42,u43,undef,undef,undef],defers:=ds}) (fun a' _=>K - (intOf (a'.tmps.getD 17 undef)).toNat) ?_ ?_
 ·(repeat apply Exists.intro)
  refine ⟨?_,rfl⟩
  exact ⟨0,Nat.zero_le _,rfl,hx2,RA,RL,.nil _ _,_,_,RC,HC,hne⟩
 ·intro _ wr hinv
  obtain ⟨ds,u8,u9,u10,u17,u18,u19,u20,u21,u22,u23,u26,u27,u28,u29,u30,u31,u32,u33,u34,u35,u36,u37,u38,u39,u40,u41,u42,u43,hrel,ha⟩:=hinv
  subst ha
  clear hx2 RA RL RC HC hne
  obtain ⟨k,hk,rfl,hb,RA,RL,HM,va,vc,RC,HC,hne⟩:=hrel
  have HM:=Lib.hid HM
  have c0:=RC.cell (j:=0) rfl
  by_cases hkt:k<K
  case neg=>
   obtain rfl:k=K:=by omega
   have hci:∀W':World,(Instr.indexAt 44 (.slice va st.length vc) (.int .i64 0)).run Tryz.prog W'=.ok (.pointer (some (adr va 0))) W':=HC.out.idx (cntsL_len _ _ _ _).symm 0 (by rw[cntsL_len];omega)
   have hcc:=ints_cells (HC.out.read (cntsL_wf hL)) (.refl _ _) 0 (by rw[cntsL_len];omega)
   have hcv:((cntsL st k L st.length).map (Value.int .i64)).getD 0 undef=.int .i64 (cutW st k L 0:Nat):=by
    rw[←nth_cntsL (show 0<st.length by omega)]
    rw[List.getD_eq_getElem?_getD,List.getElem?_map,get?_nth (by rw[cntsL_len];omega)];rfl
   rw[hcv]at hcc
   have hbk:=World.block_lt_of_cell? _ _ hcc
   have hbk2:=RC.lt
   clear hcv
   go_wp2
   refine bodyM_ret (leaves_marks HM.out hb.size fun W' hbel _=>?_)
   exact ⟨.int .i64 (cutW st k L 0:Nat),by simp[results,Tryz.results120,go_sem],.mk (hb.trans hbel) rfl⟩
  obtain ⟨i0,hi,hz0,hz1,hz2⟩:=info_parts info_int
  have hb2:w.heap.size+2≤wr.heap.size:=by have:=RC.lt;omega
  have hbk2:=RC.lt
  have a0:=RA.cell (j:=0) rfl
  have a1:=RA.cell (j:=1) rfl
  have hla:=RA.lt
  obtain ⟨wo,rfl⟩:∃wo:World,wo=wr:=⟨_,rfl⟩
  go_wp2_with (first | (at_make;refine wpList_make_full _ rfl _ _ 44 rfl (w.heap.size+2) 3 i0 (.int .i64 0) 1 Tryz.underlying44 hi hz0 hz1 .i64 .i64 _ _ st.length rfl rfl rfl rfl (by rw[hz2];omega) (by unfold maxLen;omega) hb2 ?_;intro w2 hown2 hgrow2;have hbw:Below wo.heap.size wo w2:=(Below.refl _ wo).grown hgrow2 (Nat.le_refl _) (fun j hj=>by cases hj);have RA2:=RA.ext hbw;have d0:=RA2.cell (j:=0) rfl;have d1:=RA2.cell (j:=1) rfl;have hla2:=RA2.lt;have KM:=Lib.hid (moves_calls (w2.alloc (.cells #[.slice (some ⟨wo.heap.size,0,none⟩) st.length st.length] 44)) n (.slice sa st.length sc) rfl rfl)) | fail)
  refine KM.out.mono ?_
  rintro _ _ ⟨rfl,rfl⟩
  have hmc:(madeCells #[Value.int .i64 0] (st.length * 1)).toList=(accL st k L st.length []).map (Value.int .i64):=by
   rw[Nat.mul_one,accL_nil,List.map_replicate];exact (toList_madeCells_one _ _)
  have RN:=(Row.of_own hown2).1.get hmc
  have hs2:wo.heap.size<w2.heap.size:=RN.lt
  have hb3:Below wo.heap.size wo ((w2.alloc (.cells #[.slice (some ⟨wo.heap.size,0,none⟩) st.length st.length] 44)).alloc (.cells #[.int .i64 n,.slice sa st.length sc] 27)):=(hbw.alloc hbw.size _).alloc (by simp;omega) _
  have hx3:=ext_trans hb hb3
  have RNB:=(row_new w2 [.slice (some ⟨wo.heap.size,0,none⟩) st.length st.length] 44).alloc (.cells #[.int .i64 n,.slice sa st.length sc] 27)
  have RB:=row_new (w2.alloc (.cells #[.slice (some ⟨wo.heap.size,0,none⟩) st.length st.length] 44)) [.int .i64 n,.slice sa st.length sc] 27
  rw[World.size_alloc]at RB ⊢
  replace RN:=(RN.alloc (.cells #[.slice (some ⟨wo.heap.size,0,none⟩) st.length st.length] 44)).alloc (.cells #[.int .i64 n,.slice sa st.length sc] 27)
  have RA3:=RA.ext hb3
  have RL3:=RL.ext hb3
  have RC3:=RC.ext hb3
  have HM3:=Lib.hid (HM.out.ext hb3)
  have HCL:=HC.out.lt
  have HC3:=Lib.hid (HC.out.ext hb3)
  have hCBl:=RC.lt
  obtain ⟨NA,hNA⟩:∃NA,NA=wo.heap.size:=⟨_,rfl⟩
  obtain ⟨NB,hNB⟩:∃NB,NB=w2.heap.size:=⟨_,rfl⟩
  obtain ⟨w3,hw3⟩:∃w3,w3=(w2.alloc (.cells #[.slice (some ⟨wo.heap.size,0,none⟩) st.length st.length] 44)).alloc (.cells #[.int .i64 n,.slice sa st.length sc] 27):=⟨_,rfl⟩
  rw[←hw3]at hb3 hx3 RNB RB RN RA3 RL3 RC3 HM3 HC3 ⊢
  rw[←hNB]at RNB RB hs2 ⊢
  rw[←hNA]at RN RNB HCL hs2 hCBl ⊢
  have hwN:w.heap.size+2≤NA:=by omega
  have z3:=RB.lt
  have hHT:Hid (∀b,(b<w3.heap.size∧b≠NA)→b<w3.heap.size):=Lib.hid fun b h=>h.1
  clear hw3 KM hmc hown2 hgrow2 hbw RA2 d0 d1 hla2 a0 a1 hla hbk2 c0 hi hz0 hz1 hz2 hNB hNA hb3 hb2 HC RA RL RC HM hb
  go_wp2
  refine wpIn_wide (n:=6).1 ?_
  have HST:=moves_stops (Px:=fun x=>MoveOK n st x.2∧x.1<st.length) (T:=fun b=>b<w3.heap.size∧b≠NA) (n:=5) (by decide) RB (HS.out.ext hx3) ⟨by omega,by omega⟩ (fun b hb=>⟨by have:=hb.2;have:=hx3.size;omega,by have:=hb.2;omega⟩) hHT.out (fun k hk j hj=>⟨⟨((HOK.out k hk).2 j hj).1,((HOK.out k hk).2 j hj).2.1,((HOK.out k hk).2 j hj).2.2.1,((HOK.out k hk).2 j hj).2.2.2⟩,hk⟩)
  apply rangeFunc_sa (n:=6) rfl (by decide) (gf:=146) (lb:=#[.pointer (some ⟨NB+1,0,none⟩)]) rfl trivial (enters_of Tryz.func146 (by kernel_rfl) rfl)
   HST agreeK_t (agreeK_b hHT.out) agreeK_a (fun _=>rfl)
   (fun (pre:List {x:Nat×List Int // MoveOK n st x.2∧x.1<st.length}) W=>Row W NA 3 ((accL st k L st.length (pre.map (·.1))).map (Value.int .i64))∧Agree (fun b=>b<w3.heap.size∧b≠NA) w3 W∧Below w.heap.size w W)
   (fun c (pre:List {x:Nat×List Int // MoveOK n st x.2∧x.1<st.length}) W=>False)
   (OwnFrom.and (ownFrom_row (xs:=fun (pre:List {x:Nat×List Int // MoveOK n st x.2∧x.1<st.length})=>(accL st k L st.length (pre.map (·.1))).map (Value.int .i64)) (by omega)) (OwnFrom.and (ownFrom_agree hHT.out) (ownFrom_below (Nat.le_refl _) hx3.size)))
   (fun c=>ownFrom_false _) ⟨RN,.refl _ _,hx3⟩ (fun x=>.cells #[.int .i64 (nth x.1.2 0),.int .i64 (nth x.1.2 1),.int .i64 (nth x.1.2 2),.int .i64 (nth x.1.2 3),.int .i64 (nth x.1.2 4),.int .i64 (nth x.1.2 5),.int .i64 (nth x.1.2 6),.int .i64 (nth x.1.2 7)] 121)
  case hassign=>
   intro l x W g K hgW hK
   unfold mL
   gi_wp2
   rw[←hgW]
   exact hK
  case hbody=>
   rintro l pre ⟨⟨s,m⟩,hpx⟩ W ⟨hR,hA,hBW⟩ hsW hlen
   dsimp only at hpx ⊢
   have hpx2:=hpx
   obtain ⟨⟨hm1,hm2,hm3,hm4⟩,hms⟩:=hpx2
   have cell0:∀(b j:Nat) (e:TypeId) (xs:List Value) (u:Value),Row w3 b e xs→b≠NA→xs[j]? =some u→(W.alloc (.cells #[.int .i64 (nth m 0),.int .i64 (nth m 1),.int .i64 (nth m 2),.int .i64 (nth m 3),.int .i64 (nth m 4),.int .i64 (nth m 5),.int .i64 (nth m 6),.int .i64 (nth m 7)] 121)).cell? ⟨b,j,none⟩=some u:=fun b j e xs u hb hne hu=>((hb.agree hA ⟨hb.lt,hne⟩).alloc _).cell hu
   have f1:=cell0 NB 0 _ _ _ RNB (by omega) rfl
   have f2:=cell0 CB 0 _ _ _ RC3 (by omega) rfl
   have f3:=cell0 (w.heap.size+1) 0 _ _ _ RL3 (by omega) rfl
   have RM:=row_new W [.int .i64 (nth m 0),.int .i64 (nth m 1),.int .i64 (nth m 2),.int .i64 (nth m 3),.int .i64 (nth m 4),.int .i64 (nth m 5),.int .i64 (nth m 6),.int .i64 (nth m 7)] 121
   obtain ⟨to,hto⟩:∃t:Nat,nth m 7=t:=⟨(nth m 7).toNat,by omega⟩
   have f4:=RM.cell (j:=7) (u:=.int .i64 to) (by rw[←hto];rfl)
   rw[hto]at hm3 hm4
   have hal:=accL_len st k L st.length (pre.map (·.1))
   have R0:=hR.alloc (.cells #[.int .i64 (nth m 0),.int .i64 (nth m 1),.int .i64 (nth m 2),.int .i64 (nth m 3),.int .i64 (nth m 4),.int .i64 (nth m 5),.int .i64 (nth m 6),.int .i64 (nth m 7)] 121)
   obtain ⟨x,hx⟩:∃x,x=min (sumF st k (pre.map (·.1)) s) (L+1):=⟨_,rfl⟩
   have f5:=R0.cell (j:=s) (u:=.int .i64 x) (by rw[List.getElem?_map,get?_nth (by rw[hal];exact hms),nth_accL hms,hx];rfl)
   have f7:=R0.free s
   have f8:=R0.lt
   have HCW:=(HC3.out.agreeT hA (fun g hg=>⟨by have:=(HC3.out.lt g hg).2;omega,by have:=(HCL g hg).2;omega⟩)).ext (ext_alloc W (.cells #[.int .i64 (nth m 0),.int .i64 (nth m 1),.int .i64 (nth m 2),.int .i64 (nth m 3),.int .i64 (nth m 4),.int .i64 (nth m 5),.int .i64 (nth m 6),.int .i64 (nth m 7)] 121))
   have htl:to<st.length:=by omega
   obtain ⟨y,hy⟩:∃y,y=cutW st k L to:=⟨_,rfl⟩
   have f6:=ints_cells (HCW.read (cntsL_wf hL)) (.refl _ _) to (by rw[cntsL_len];exact htl)
   have hcv:((cntsL st k L st.length).map (Value.int .i64)).getD to undef=.int .i64 (y:Nat):=by
    rw[hy,←nth_cntsL htl,List.getD_eq_getElem?_getD,List.getElem?_map,get?_nth (by rw[cntsL_len];exact htl)];rfl
   rw[hcv]at f6
   have q1:∀W':World,(Instr.indexAt 44 (.slice va st.length vc) (.int .i64 to)).run Tryz.prog W'=.ok (.pointer (some (adr va to))) W':=HCW.idx (cntsL_len _ _ _ _).symm to (by rw[cntsL_len];exact htl)
   have q2:∀W':World,(Instr.indexAt 44 (.slice (some ⟨NA,0,none⟩) st.length st.length) (.int .i64 s)).run Tryz.prog W'=.ok (.pointer (some ⟨NA,s,none⟩)) W':=by
    obtain ⟨i,hi,_,h1,_⟩:=info_parts info_int
    have:=idx_one (P:=Tryz.prog) (S:=fun _=>True) (w:=w3) Tryz.underlying44 hi h1 (a:=some ⟨NA,0,none⟩) (n:=st.length) (cap:=st.length) (.inr ⟨NA,0,rfl,by omega,trivial⟩) s hms
    rw[adr_add,Nat.zero_add]at this
    exact this
   have hxl:x≤L+1:=by rw[hx];exact Nat.min_le_right _ _
   have hyl:y≤L+1:=by rw[hy];exact cutW_le _ _ _ _
   have hw1:IntKind.i64.wrap ((x:Int)+(y:Int))=((x+y:Nat):Int):=by rw[IntKind.wrap_i64];omega
   have hw2:IntKind.i64.wrap ((L:Int)+1)=((L+1:Nat):Int):=by rw[IntKind.wrap_i64];omega
   have FIN:Hid (∀(W':World) (v:Int),W'=((W.alloc (.cells #[.int .i64 (nth m 0),.int .i64 (nth m 1),.int .i64 (nth m 2),.int .i64 (nth m 3),.int .i64 (nth m 4),.int .i64 (nth m 5),.int .i64 (nth m 6),.int .i64 (nth m 7)] 121)).setCell ⟨NA,s,none⟩ (.int .i64 v)).drew→v=(min (x+y) (L+1):Nat)→KeepsOthers (W.alloc (.cells #[.int .i64 (nth m 0),.int .i64 (nth m 1),.int .i64 (nth m 2),.int .i64 (nth m 3),.int .i64 (nth m 4),.int .i64 (nth m 5),.int .i64 (nth m 6),.int .i64 (nth m 7)] 121)) W'∧Agree (fun b=>b<w3.heap.size∧b≠NA) (W.alloc (.cells #[.int .i64 (nth m 0),.int .i64 (nth m 1),.int .i64 (nth m 2),.int .i64 (nth m 3),.int .i64 (nth m 4),.int .i64 (nth m 5),.int .i64 (nth m 6),.int .i64 (nth m 7)] 121)) W'∧Row W' NA 3 ((accL st k L st.length ((pre++[(⟨(s,m),hpx⟩:{x:Nat×List Int // MoveOK n st x.2∧x.1<st.length})]).map (·.1))).map (Value.int .i64))∧Agree (fun b=>b<w3.heap.size∧b≠NA) w3 W'∧Below w.heap.size w W'):=Lib.hid fun W' v hW hv=>by
    subst hW hv
    have hag:=(Agree.of_grown (grownBy_setCell (W.alloc (.cells #[.int .i64 (nth m 0),.int .i64 (nth m 1),.int .i64 (nth m 2),.int .i64 (nth m 3),.int .i64 (nth m 4),.int .i64 (nth m 5),.int .i64 (nth m 6),.int .i64 (nth m 7)] 121)) NA s (.int .i64 ((min (x+y) (L+1):Nat):Int))) (S:=fun b=>b<w3.heap.size∧b≠NA) fun b hb e=>by cases e;exact hb.2 rfl)
    refine ⟨KeepsOthers.trans (.setCell _ _ _) (keeps_below (drewN_below _ _ 1)),hag.trans (drewN_agree _ _ 1),?_,(hA.alloc _).trans (hag.trans (drewN_agree _ _ 1)),((hBW.alloc hBW.size _).setCell (by simp;omega) _).trans (drewN_below _ _ 1)⟩
    have hset:=(R0.set s (.int .i64 ((min (x+y) (L+1):Nat):Int))).agree (S:=fun _=>True) (drewN_agree _ _ 1) trivial
    rw[←List.map_set,accL_snoc (x:=(s,m)) hms (by rw[hx,hy];unfold cutW;dsimp only;rw[hto,Int.toNat_natCast])]at hset
    rw[List.map_append]
    exact hset
   obtain ⟨g,hg⟩:∃g,g=W.heap.size:=⟨_,rfl⟩
   obtain ⟨W0,hW0⟩:∃W0,W0=W.alloc (.cells #[.int .i64 (nth m 0),.int .i64 (nth m 1),.int .i64 (nth m 2),.int .i64 (nth m 3),.int .i64 (nth m 4),.int .i64 (nth m 5),.int .i64 (nth m 6),.int .i64 (nth m 7)] 121):=⟨_,rfl⟩
   rw[←hg]at f4 ⊢
   rw[←hW0]at f1 f2 f3 f4 f5 f6 f7 f8 FIN ⊢
   clear cell0 RM hR hA hBW hal R0 HCW hcv hx hy hto hg hW0 hm1 hm2 hm3 hm4 HST
   gi_wp2
   refine region_EIn (fun w':World=>w'.cell? ⟨NB,0,none⟩=some (.slice (some ⟨NA,0,none⟩) st.length st.length)∧w'.cell? ⟨CB,0,none⟩=some (.slice va st.length vc)∧w'.cell? ⟨w.heap.size+1,0,none⟩=some (.int .i64 L)∧w'.cell? ⟨g,7,none⟩=some (.int .i64 to)∧w'.cell? ⟨NA,s,none⟩=some (.int .i64 x)∧w'.cell? (adr va to)=some (.int .i64 y)∧w'.frozen? ⟨NA,s,none⟩=false∧NA<w'.heap.size) (fun i=>i==16) (by kernel_rfl) (by kernel_rfl) (by rintro ⟨_,_,h⟩;exact h) ?_ (fun hHeld=>?_)
   ·exact ⟨f1,f2,f3,f4,f5,f6,f7,f8⟩
   refine anyE_take 0 (v:=?_) rfl (by kernel_rfl) (fun _ _ _ h=>h) (by rfl) ?hy0 hHeld ?rest0
   case hy0=>(intro w hSw;(try dsimp only at hSw);go_simp;try with_reducible rfl)
   try simp only[Act.put,zsa,zsz,zss]
   refine anyE_take 1 (v:=?_) rfl (by kernel_rfl) (fun _ _ _ h=>h) (by rfl) ?hy1 hHeld ?rest1
   case hy1=>(intro w hSw;(try dsimp only at hSw);go_simp;try with_reducible rfl)
   try simp only[Act.put,zsa,zsz,zss]
   refine anyE_take 2 (v:=?_) rfl (by kernel_rfl) (fun _ _ _ h=>h) (by rfl) ?hy2 hHeld ?rest2
   case hy2=>(intro w hSw;(try dsimp only at hSw);go_simp;try with_reducible rfl)
   try simp only[Act.put,zsa,zsz,zss]
   refine anyE_take 3 (v:=?_) rfl (by kernel_rfl) (fun _ _ _ h=>h) (by rfl) ?hy3 hHeld ?rest3
   case hy3=>(intro w hSw;(try dsimp only at hSw);go_simp;try with_reducible rfl)
   try simp only[Act.put,zsa,zsz,zss]
   refine anyE_take 4 (v:=?_) rfl (by kernel_rfl) (fun _ _ _ h=>h) (by rfl) ?hy4 hHeld ?rest4
   case hy4=>(intro w hSw;(try dsimp only at hSw);go_simp;try with_reducible rfl)
   try simp only[Act.put,zsa,zsz,zss]
   refine anyE_take 5 (v:=?_) rfl (by kernel_rfl) (fun _ _ _ h=>h) (by rfl) ?hy5 hHeld ?rest5
   case hy5=>(intro w hSw;(try dsimp only at hSw);go_simp;try with_reducible rfl)
   try simp only[Act.put,zsa,zsz,zss]
   refine anyE_take 6 (v:=?_) rfl (by kernel_rfl) (fun _ _ _ h=>h) (by rfl) ?hy6 hHeld ?rest6
   case hy6=>(intro w hSw;(try dsimp only at hSw);go_simp;try with_reducible rfl)
   try simp only[Act.put,zsa,zsz,zss]
   refine anyE_take 7 (v:=?_) rfl (by kernel_rfl) (fun _ _ _ h=>h) (by rfl) ?hy7 hHeld ?rest7
   case hy7=>(intro w hSw;(try dsimp only at hSw);go_simp;try with_reducible rfl)
   try simp only[Act.put,zsa,zsz,zss]
   refine anyE_take 8 (v:=?_) rfl (by kernel_rfl) (fun _ _ _ h=>h) (by rfl) ?hy8 hHeld ?rest8
   case hy8=>(intro w hSw;(try dsimp only at hSw);go_simp;try with_reducible rfl)
   try simp only[Act.put,zsa,zsz,zss]
   refine anyE_take 9 (v:=?_) rfl (by kernel_rfl) (fun _ _ _ h=>h) (by rfl) ?hy9 hHeld ?rest9
   case hy9=>(intro w hSw;(try dsimp only at hSw);go_simp;try with_reducible rfl)
   try simp only[Act.put,zsa,zsz,zss]
   refine anyE_take 10 (v:=?_) rfl (by kernel_rfl) (fun _ _ _ h=>h) (by rfl) ?hy10 hHeld ?rest10
   case hy10=>(intro w hSw;(try dsimp only at hSw);go_simp;try with_reducible rfl)
   try simp only[Act.put,zsa,zsz,zss]
   refine anyE_take 11 (v:=?_) rfl (by kernel_rfl) (fun _ _ _ h=>h) (by rfl) ?hy11 hHeld ?rest11
   case hy11=>(intro w hSw;(try dsimp only at hSw);go_simp;try with_reducible rfl)
   try simp only[Act.put,zsa,zsz,zss]
   refine anyE_take 12 (v:=?_) rfl (by kernel_rfl) (fun _ _ _ h=>h) (by rfl) ?hy12 hHeld ?rest12
   case hy12=>(intro w hSw;(try dsimp only at hSw);go_simp;try with_reducible rfl)
   try simp only[Act.put,zsa,zsz,zss]
   refine anyE_take 13 (v:=?_) rfl (by kernel_rfl) (fun _ _ _ h=>h) (by rfl) ?hy13 hHeld ?rest13
   case hy13=>(intro w hSw;(try dsimp only at hSw);go_simp;try with_reducible rfl)
   try simp only[Act.put,zsa,zsz,zss]
   refine anyE_take 14 (v:=?_) rfl (by kernel_rfl) (fun _ _ _ h=>h) (by rfl) ?hy14 hHeld ?rest14
   case hy14=>(intro w hSw;(try dsimp only at hSw);go_simp;try with_reducible rfl)
   try simp only[Act.put,zsa,zsz,zss]
   refine anyE_take 15 (v:=?_) rfl (by kernel_rfl) (fun _ _ _ h=>h) (by rfl) ?hy15 hHeld ?rest15
   case hy15=>(intro w hSw;(try dsimp only at hSw);go_simp;try with_reducible rfl)
   try simp only[Act.put,zsa,zsz,zss]
   refine anyE_one 16 rfl (by kernel_rfl) (fun K hK=>?_)
   go_simp
   refine hK.out _ _ (fun h=>by simp at h) (fun hHeld=>?_)
   clear hK K
   try simp only[Act.put,zsa,zsz,zss]
   refine anyE_done (by kernel_rfl) ?_ _
   gi_wp2
   all_goals exact FIN.out _ _ rfl (by omega)
  case hstop=>intros;contradiction
  case hdone=>
   rintro D xs W hD hS ⟨hR,hA,hBW⟩ hK
   rw[hS,accL_all]at hR
   have P1:=RNB.agree hA ⟨by omega,by omega⟩
   have PA:=RA3.agree hA ⟨RA3.lt,by omega⟩
   have PL:=RL3.agree hA ⟨RL3.lt,by omega⟩
   have PC:=RC3.agree hA ⟨RC3.lt,by omega⟩
   have c0:=P1.cell (j:=0) rfl
   have c1:=PC.cell (j:=0) rfl
   have c2:=PC.free 0
   have c3:=PC.lt
   have HMW:=HM3.out.agree hA (fun D hD=>⟨(Array.getElem?_eq_some_iff.1 hD).1,fun e=>by have:=RN;unfold Row at this;rw[e]at hD;rw[hD]at this;cases this⟩)
   have HMC:=(HM3.out.cons (D:=D) HMW hD (by have:=hx3.size;omega) hK).set
   have HW:Hid (∀W',W'=W.setCell ⟨CB,0,none⟩ (.slice (some ⟨NA,0,none⟩) st.length st.length)→Below w.heap.size w W'∧Row W' w.heap.size 27 [.int .i64 n,.slice sa st.length sc]∧Row W' (w.heap.size+1) 3 [.int .i64 L]∧Marks w.heap.size W' ({target:=.collected D,args:=#[]}::ds)∧Row W' CB 44 [.slice (some ⟨NA,0,none⟩) st.length st.length]∧Hid (Cnts (w.heap.size+2) W' (.slice (some ⟨NA,0,none⟩) st.length st.length) (cntsL st (k+1) L st.length))∧∀g,(Value.slice (some ⟨NA,0,none⟩) st.length st.length).ownBlock=some g→g≠CB):=Lib.hid fun W' hW=>by
    subst hW
    have hgr:=grownBy_setCell W CB 0 (.slice (some ⟨NA,0,none⟩) st.length st.length)
    refine ⟨hBW.setCell (by simp;omega) _,PA.grown hgr (by simp;omega),PL.grown hgr (by simp;omega),HMC _ _,PC.set 0 _,Lib.hid ?_,fun g hg=>by simp[Value.ownBlock]at hg;omega⟩
    have hO:=(hR.grown hgr (by simp;omega)).owns (base:=w.heap.size+2) (by omega) (by simp[cntsL_len,maxLen];omega)
    rw[List.length_map,cntsL_len]at hO
    unfold Cnts
    rw[cntsL_len]
    exact hO
   clear P1 PA PL PC hBW HMW HMC hR hA hS RNB RB RN RA3 RL3 RC3 HM3 HC3
   go_wp2
   refine ⟨?rel,?measure⟩
   case rel=>
    obtain ⟨g1,g2,g3,g4,g5,g6,g7⟩:=HW.out _ rfl
    (repeat apply Exists.intro)
    refine ⟨?hr,?he⟩
    case he=>repeat' (first | exact rfl | apply And.intro)
    exact ⟨k+1,by omega,by go_num,g1,g2,g3,g4,_,_,g5,g6,g7⟩
   case measure=>simp[intOf];omega
end Go.Proofs.YtaijafjfafbcfaaGreat
