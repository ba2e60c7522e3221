/- Part of the proof that the laws answer true for every input. -/
import Derived.Test.YtaijafjfafbcfaaGreatPXa08
import Derived.Test.YtaijafjfafbcfaaGreatPXa02
import Derived.RangeFuncFrom
import Derived.RangeFuncLeaves
set_option linter.unusedSimpArgs false
set_option linter.unnecessarySimpa false
set_option linter.unusedVariables false
set_option maxRecDepth 100000
set_option maxHeartbeats 40000000
namespace Go.Proofs.YtaijafjfafbcfaaGreat
open Go.RowKit Go.Shelf
attribute [local go_sem ↓] Go.wp_at_zero Go.wp_at_succ
attribute [local go_sem] Oper.semAt_some
theorem ownFrom_row {β:Type} {B g:Nat} {e:TypeId} {xs:β→List Value} (hg:g<B):OwnFrom B (fun (s:β) W=>Row W g e (xs s)):=
 fun s A C row hs hg' hr=>hs.grown hg' (fun e=>by have:=(hr _ e).1;omega)
theorem ownFrom_agree {β:Type} {B:Nat} {T:Nat→Prop} {w0:World} (hT:∀b,T b→b<B):OwnFrom B (fun (_:β) W=>Agree T w0 W):=
 fun s A C row hs hg' hr=>hs.trans (.of_grown hg' fun b hb e=>by have:=hT b hb;have:=(hr _ e).1;omega)
theorem ownFrom_false {β:Type} (B:Nat):OwnFrom B (fun (_:β) (_:World)=>False):=fun _ _ _ _ h _ _=>h
theorem sized_calls {S:Nat→Prop} {w:World} {vs:Value} {st:Moves} (n:Int) (hs:Sl (kSl (kFlat 8)) S w vs st) (hl:st.length≤1000):
  Calls Tryz.prog 132 #[.agg #[.int .i64 n,vs]] w (Post w fun _ r=>r=.int .i64 (if st.length<1∨256<st.length∨4096<movesN st then 5 else 0)):=by
 have hsum:movesN st≤140737488355328000:=by
  have:=movesN_bound hs.rows_few st.length (Nat.le_refl _)
  rw[List.take_length]at this
  have h2:st.length * 140737488355328≤1000 * 140737488355328:=Nat.mul_le_mul_right _ hl
  omega
 obtain ⟨sa,sc,rfl,hm⟩:=hs.addr
 have HS:=Lib.hid hs.block
 have HLEN:=Lib.hid (length_pairsM st)
 obtain ⟨r,hr⟩:∃r:Int,r=if st.length<1∨256<st.length∨4096<movesN st then 5 else 0:=⟨_,rfl⟩
 rw[←hr]
 have HR:=Lib.hid hr
 clear hs hr
 have ex:=ext_alloc' (ext_alloc w (.cells #[.int .i64 n,.slice sa st.length sc] 27)) (.cells #[.int .i64 0] 3)
 have R0:Row ((w.alloc (.cells #[.int .i64 n,.slice sa st.length sc] 27)).alloc (.cells #[.int .i64 0] 3)) w.heap.size 27 [.int .i64 n,.slice sa st.length sc]:=(row_new w [_,_] _).alloc _
 have RN:Row ((w.alloc (.cells #[.int .i64 n,.slice sa st.length sc] 27)).alloc (.cells #[.int .i64 0] 3)) (w.heap.size+1) 3 [.int .i64 0]:=by
  have:=row_new (w.alloc (.cells #[.int .i64 n,.slice sa st.length sc] 27)) [.int .i64 0] 3
  rwa [World.size_alloc]at this
 refine (callsIn_wide (n:=6)).1 ?_
 refine callsIn_of_wp_marks Tryz.func132 rfl trivial ?_ rfl
 simp only[Tryz.ntmps132,List.size_toArray,List.length_cons,List.length_nil,Nat.reduceAdd,Nat.reduceSub,Array.replicate_succ,Array.replicate_zero,List.push_toArray,List.append_toArray,List.nil_append,List.cons_append]
 obtain ⟨w2,hw2⟩:∃w2,w2=(w.alloc (.cells #[.int .i64 n,.slice sa st.length sc] 27)).alloc (.cells #[.int .i64 0] 3):=⟨_,rfl⟩
 have c0:=R0.cell (j:=0) rfl
 have c1:=R0.cell (j:=1) rfl
 rw[←hw2]at ex R0 RN
 have KM:=Lib.hid (moves_calls w2 n (.slice sa st.length sc) rfl rfl)
 gi_wp2_with fail
 rw[←hw2]
 clear hw2 c0 c1
 refine ⟨trivial,(callsIn_wide.2 KM.out).mono ?_⟩
 rintro _ _ ⟨rfl,rfl⟩
 have RB:=row_new w2 [.int .i64 n,.slice sa st.length sc] 27
 have hx3:=ext_alloc' ex (.cells #[.int .i64 n,.slice sa st.length sc] 27)
 have R0:=R0.alloc (.cells #[.int .i64 n,.slice sa st.length sc] 27)
 have RN:=RN.alloc (.cells #[.int .i64 n,.slice sa st.length sc] 27)
 obtain ⟨B1,hB1⟩:∃B1,B1=w2.heap.size:=⟨_,rfl⟩
 obtain ⟨w3,hw3⟩:∃w3,w3=w2.alloc (.cells #[.int .i64 n,.slice sa st.length sc] 27):=⟨_,rfl⟩
 rw[←hB1]at RB ⊢
 rw[←hw3]at RB hx3 R0 RN ⊢
 have zB:=RB.lt
 have zN:=RN.lt
 have hB2:w.heap.size+1<B1:=by
  have:=ex.size
  have e2:=hB1
  have:=RN
  rw[hB1]
  have h9:w.heap.size+1<w2.heap.size:=by
   have hz:=(show w3.heap.size=w2.heap.size+1 by rw[hw3];simp)
   rcases Nat.lt_or_ge (w.heap.size+1) w2.heap.size with h | h
   ·exact h
   ·have:w.heap.size+1=w2.heap.size:=by omega
    rw[this,hw3]at RN
    have hx:=World.alloc_heap_new w2 (.cells #[.int .i64 n,.slice sa st.length sc] 27)
    unfold Row at RN
    rw[hx]at RN
    simp at RN
  exact h9
 clear hw3 hB1 KM ex
 gi_wp2_with fail
 have HST:=moves_stops (Px:=fun _=>True) (T:=fun b=>b<w.heap.size∨b=B1) (n:=5) (by decide) RB (HS.out.ext hx3) (.inr rfl) (fun b hb=>.inl hb.2) (fun b hb=>by have:=hx3.size;rcases hb with h | h<;>omega) (fun _ _ _ _=>trivial)
 have zw:=hx3.size
 apply wpIn_rangeFunc_ownF (n:=6) rfl (by decide) (gf:=146) (lb:=#[.pointer (some ⟨B1,0,none⟩)]) rfl trivial (enters_of Tryz.func146 (by kernel_rfl) rfl)
  HST agreeK_t (agreeK_b (fun b hb=>by rcases hb with h | h<;>omega)) (Below.refl _ _) (fun _=>rfl)
  (fun (pre:List {x:Nat×List Int // True}) W=>Row W (w.heap.size+1) 3 [.int .i64 (pre.length:Nat)]∧(Row W w.heap.size 27 [.int .i64 n,.slice sa st.length sc]∧Below w.heap.size w W))
  (fun c (pre:List {x:Nat×List Int // True}) W=>False)
  (OwnFrom.and (ownFrom_row (xs:=fun pre:List {x:Nat×List Int // True}=>[.int .i64 (pre.length:Nat)]) zN) (OwnFrom.and (ownFrom_row (xs:=fun _=>[.int .i64 n,.slice sa st.length sc]) (by omega)) (ownFrom_below (Nat.le_refl _) zw)))
  (fun c=>ownFrom_false _) ⟨RN,R0,hx3⟩
 case hassign=>
  intro l x W K hK
  gi_wp2
  exact hK
 case hbody=>
  rintro l pre ⟨⟨s,m⟩,_⟩ W ⟨P1,P0,hB⟩ hlen
  rw[HLEN.out]at hlen
  have q1:=P1.cell (j:=0) rfl
  have f1:=P1.free 0
  have z1:=P1.lt
  have HW:Hid (∀u,u=(pre.length:Int)+1→KeepsOthers W (W.setCell ⟨w.heap.size+1,0,none⟩ (.int .i64 u))∧Agree (fun b=>b<w.heap.size∨b=B1) W (W.setCell ⟨w.heap.size+1,0,none⟩ (.int .i64 u))∧(Row (W.setCell ⟨w.heap.size+1,0,none⟩ (.int .i64 u)) (w.heap.size+1) 3 [.int .i64 ((pre++[(⟨(s,m),trivial⟩:{x:Nat×List Int // True})]).length:Nat)]∧(Row (W.setCell ⟨w.heap.size+1,0,none⟩ (.int .i64 u)) w.heap.size 27 [.int .i64 n,.slice sa st.length sc]∧Below w.heap.size w (W.setCell ⟨w.heap.size+1,0,none⟩ (.int .i64 u))))):=Lib.hid fun u hu=>by
   subst hu
   refine ⟨.setCell _ _ _,.of_grown (grownBy_setCell _ _ _ _) fun b hb e=>?_,by simpa using P1.set 0 (.int .i64 ((pre.length:Int)+1)),P0.grown (grownBy_setCell _ _ _ _) (by simp),hB.setCell (by simp) _⟩
   have:=Option.some.inj e
   rcases hb with h | h<;>omega
  obtain ⟨k,hk⟩:∃k,k=pre.length:=⟨_,rfl⟩
  rw[←hk]at HW q1 hlen
  clear P1 P0 hB hk
  gi_wp2
  exact HW.out _ rfl
 case hstop=>
  rintro D c pre W hD hSp h hK
  exact h.elim
 case hdone=>
  rintro D xs W hD hS ⟨P1,P0,hB⟩ hK
  rw[show xs.length=movesN st by rw[←HLEN.out,←hS,List.length_map]]at P1
  have q1:=P1.cell (j:=0) rfl
  have c1:=P0.cell (j:=1) rfl
  have hB9:=hB.grown (grownBy_putObj' W D (.deferred none)) hB.size (fun k hk=>by cases hk;omega)
  obtain ⟨mn,hmn⟩:∃x,x=movesN st:=⟨_,rfl⟩
  rw[←hmn]at HR q1 hsum
  clear P1 P0 hS hmn
  have fin:∀x:Int,r=x→Post w (fun _ q=>q=.int .i64 r) (.returned (.int .i64 x)) (W.putObj D (.deferred none)):=fun x hx=>.mk hB9 (by rw[hx])
  have FIN:=Lib.hid fin
  clear fin hB9
  by_cases g1:st.length<1
  ·have RR:Hid (r=5):=Lib.hid (by rw[HR.out,if_pos (.inl g1)])
   gi_wp2
   refine ⟨by simp,.inl ⟨_,_,rfl,run_takeDeferred hK,?_⟩⟩
   exact ⟨.int .i64 5,by simp[results,Tryz.results132,go_sem],FIN.out _ RR.out⟩
  by_cases g2:256<st.length
  ·have RR:Hid (r=5):=Lib.hid (by rw[HR.out,if_pos (.inr (.inl g2))])
   gi_wp2
   refine ⟨by simp,.inl ⟨_,_,rfl,run_takeDeferred hK,?_⟩⟩
   exact ⟨.int .i64 5,by simp[results,Tryz.results132,go_sem],FIN.out _ RR.out⟩
  by_cases g3:4096<mn
  ·have RR:Hid (r=5):=Lib.hid (by rw[HR.out,if_pos (.inr (.inr g3))])
   gi_wp2
   refine ⟨by simp,.inl ⟨_,_,rfl,run_takeDeferred hK,?_⟩⟩
   exact ⟨.int .i64 5,by simp[results,Tryz.results132,go_sem],FIN.out _ RR.out⟩
  ·have RR:Hid (r=0):=Lib.hid (by rw[HR.out,if_neg (by omega)])
   gi_wp2
   refine ⟨by simp,.inl ⟨_,_,rfl,run_takeDeferred hK,?_⟩⟩
   exact ⟨.int .i64 0,by simp[results,Tryz.results132,go_sem],FIN.out _ RR.out⟩
end Go.Proofs.YtaijafjfafbcfaaGreat
namespace Go.Proofs.YtaijafjfafbcfaaGreat
open Go.RowKit Go.Shelf
attribute [local go_sem ↓] Go.wp_at_zero Go.wp_at_succ
attribute [local go_sem] Oper.semAt_some
def rowE (n:Int) (ns:Nat) (l:List (List Int)):Int:=if l.length=0 then 19 else firstE (moveE n ns l) l.length
theorem stateE_row (n:Int) (st:Moves) (s:Nat):stateE n st s=rowE n st.length (nthM st s):=rfl
theorem state_calls {S S':Nat→Prop} {w:World} {vs vl:Value} {st:Moves} {l:List (List Int)} (n:Int) (hs:Sl (kSl (kFlat 8)) S' w vs st) (hv:Sl (kFlat 8) S w vl l):
  Calls Tryz.prog 133 #[.agg #[.int .i64 n,vs],vl] w (Post w fun _ r=>r=.int .i64 (rowE n st.length l)):=by
 have HMR:=Lib.hid fun i=>moveR n st.length l i
 have HRE:Hid (l.length=0→rowE n st.length l=19):=Lib.hid fun h=>by unfold rowE;rw[if_pos h]
 have HRS:Hid (l.length≠0→∀i x,Zeros (moveE n st.length l) i→moveE n st.length l i=x→x≠0→i<l.length→rowE n st.length l=x):=Lib.hid fun h i x hz hx h0 hi=>by unfold rowE;rw[if_neg h];exact hz.stop hx h0 hi
 have HRF:Hid (l.length≠0→Zeros (moveE n st.length l) l.length→rowE n st.length l=0):=Lib.hid fun h hz=>by unfold rowE;rw[if_neg h];exact hz.done (Nat.le_refl _)
 obtain ⟨r,hr⟩:∃r,r=rowE n st.length l:=⟨_,rfl⟩
 rw[←hr]at HRE HRS HRF ⊢
 obtain ⟨sa,sc,rfl,_⟩:=hs.form
 obtain ⟨a,cap,rfl,ad,lo,lm⟩:=hv.form
 unfold maxLen at lm
 have HV:=Lib.hid hv
 have HAD:=Lib.hid ad
 have Q:=hv.idxM
 have ex:=ext_alloc w (.cells #[.int .i64 n,.slice sa st.length sc] 27)
 have RA:Row (w.alloc (.cells #[.int .i64 n,.slice sa st.length sc] 27)) w.heap.size 27 [.int .i64 n,.slice sa st.length sc]:=row_new w [_,_] _
 clear hr hs hv ad
 by_cases h0:l.length=0
 ·have RR:=Lib.hid (HRE.out h0)
  have d0:((l.length:Int)==0)=true:=by simp[h0]
  clear h0
  go_enter Tryz.func133,Tryz.ntmps133
  go_wp2
  go_ret
  exact .mk ex (int_eq RR.out.symm)
 have d0:((l.length:Int)==0)=false:=by rw[beq_eq_false_iff_ne];omega
 have HL:=Lib.hid h0
 clear h0
 go_enter Tryz.func133,Tryz.ntmps133
 go_wp2
 clear d0
 go_loopw [5,13] (fun _ i wr=>∃k:Nat,k≤l.length∧i=.int .i64 k∧Below w.heap.size w wr∧Row wr w.heap.size 27 [.int .i64 n,.slice sa st.length sc]∧Hid (Zeros (moveE n st.length l) k)) (fun _ i _=>l.length - (intOf i).toNat)
 case atStart=>exact ⟨0,Nat.zero_le _,rfl,ex,RA,Lib.hid (.zero _)⟩
 case round=>
  clear ex RA
  obtain ⟨i,hik,rfl,hb,RA,HZ⟩:=hrel
  by_cases hi:i<l.length
  case neg=>
   obtain rfl:i=l.length:=by omega
   have RR:=Lib.hid (HRF.out HL.out HZ.out)
   go_wp2
   go_ret
   exact .mk hb (int_eq RR.out.symm)
  have q:=Q.out i hi
  have hz:=(HV.out.ext hb).nums hi (by decide)
  have z0:=hz.1
  have z1:=hz.2 1 (by decide)
  have z2:=hz.2 2 (by decide)
  have z3:=hz.2 3 (by decide)
  have z4:=hz.2 4 (by decide)
  have z5:=hz.2 5 (by decide)
  have z6:=hz.2 6 (by decide)
  have z7:=hz.2 7 (by decide)
  have hbk:=Nat.lt_of_lt_of_le (adr_blk HAD.out (by omega) (i * 8)) hb.size
  have tl:=RA.lt
  have HM:=Lib.hid (HMR.out i)
  have HST:Hid (∀x,moveE n st.length l i=x→x≠0→r=x):=Lib.hid fun x hx h0=>HRS.out HL.out i x HZ.out hx h0 hi
  obtain ⟨m,hm⟩:∃m,m=nthL l i:=⟨_,rfl⟩
  have HMM:=Lib.hid hm
  rw[←hm]at z0 z1 z2 z3 z4 z5 z6 z7
  have KR:Hid (∀W,Calls Tryz.prog 144 #[.agg #[.int .i64 (nth m 0),.int .i64 (nth m 1),.int .i64 (nth m 2),.int .i64 (nth m 3),.int .i64 (nth m 4),.int .i64 (nth m 5),.int .i64 (nth m 6)]] W (Post W fun _ r=>r=.int .i64 (checkR m))):=Lib.hid fun W=>pcheckR_calls W m
  obtain ⟨e,he⟩:∃e,e=checkR m:=⟨_,rfl⟩
  rw[←he]at KR
  have HE:Hid (checkR (nthL l i)=e):=Lib.hid (by rw[he,hm])
  have exb:=ext_alloc wr (.cells #[.int .i64 (nth m 0),.int .i64 (nth m 1),.int .i64 (nth m 2),.int .i64 (nth m 3),.int .i64 (nth m 4),.int .i64 (nth m 5),.int .i64 (nth m 6),.int .i64 (nth m 7)] 121)
  have RM:Row (wr.alloc (.cells #[.int .i64 (nth m 0),.int .i64 (nth m 1),.int .i64 (nth m 2),.int .i64 (nth m 3),.int .i64 (nth m 4),.int .i64 (nth m 5),.int .i64 (nth m 6),.int .i64 (nth m 7)] 121)) wr.heap.size 121 [.int .i64 (nth m 0),.int .i64 (nth m 1),.int .i64 (nth m 2),.int .i64 (nth m 3),.int .i64 (nth m 4),.int .i64 (nth m 5),.int .i64 (nth m 6),.int .i64 (nth m 7)]:=row_new wr [.int .i64 (nth m 0),.int .i64 (nth m 1),.int .i64 (nth m 2),.int .i64 (nth m 3),.int .i64 (nth m 4),.int .i64 (nth m 5),.int .i64 (nth m 6),.int .i64 (nth m 7)] _
  have RA1:=RA.ext exb
  have hb1:=ext_trans hb exb
  obtain ⟨g,hg⟩:∃g,g=wr.heap.size:=⟨_,rfl⟩
  rw[←hg]at RM
  clear hm he hz
  go_wp2_with fail
  refine (KR.out _).mono ?_
  rintro _ w1 ⟨_,rfl,hbb,rfl⟩
  rw[←hg]
  have RA2:=RA1.ext hbb
  have RM2:=RM.ext hbb
  have hx1:=ext_trans hb1 hbb
  clear z0 z1 z2 z3 z4 z5 z6 z7 q hbk tl KR RA RA1 RM exb hb1 hbb hg hb
  by_cases h0:e=0
  case neg=>
   have RR:=Lib.hid (HST.out e (HM.out.bad e HE.out h0) h0)
   have d0:(e !=0)=true:=by simp[h0]
   clear h0
   go_wp2
   go_ret
   exact .mk hx1 (int_eq RR.out.symm)
  subst h0
  have t0:=RA2.cell (j:=0) rfl
  have m0:=RM2.cell (j:=0) rfl
  obtain ⟨mn,hmn⟩:∃x,x=nth m 0:=⟨_,rfl⟩
  rw[←hmn]at m0
  have HMN:Hid (nth (nthL l i) 0=mn):=Lib.hid (by rw[hmn,HMM.out])
  clear hmn
  by_cases hn:mn=n
  case neg=>
   have RR:=Lib.hid (HST.out 22 (HM.out.mis HE.out (by rw[HMN.out];exact hn)) (by decide))
   have d0:(mn !=n)=true:=by simp[hn]
   clear hn
   go_wp2
   go_ret
   exact .mk hx1 (int_eq RR.out.symm)
  have d0:(mn !=n)=false:=by simp[hn]
  have HN:Hid (nth (nthL l i) 0=n):=Lib.hid (by rw[HMN.out,hn])
  clear hn
  by_cases hi0:0<i
  case pos=>
   obtain ⟨j,hj⟩:∃j,j=i - 1:=⟨_,rfl⟩
   have hjl:j<l.length:=by omega
   have q1:=Q.out j hjl
   have hz:=(HV.out.ext hx1).nums hjl (by decide)
   have z0:=hz.1
   have z1:=hz.2 1 (by decide)
   have z2:=hz.2 2 (by decide)
   have z3:=hz.2 3 (by decide)
   have z4:=hz.2 4 (by decide)
   have z5:=hz.2 5 (by decide)
   have z6:=hz.2 6 (by decide)
   obtain ⟨m',hm'⟩:∃m,m=nthL l j:=⟨_,rfl⟩
   rw[←hm']at z0 z1 z2 z3 z4 z5 z6
   have KO:Hid (∀W,Calls Tryz.prog 145 #[.agg #[.int .i64 (nth m' 0),.int .i64 (nth m' 1),.int .i64 (nth m' 2),.int .i64 (nth m' 3),.int .i64 (nth m' 4),.int .i64 (nth m' 5),.int .i64 (nth m' 6)],.agg #[.int .i64 (nth m 0),.int .i64 (nth m 1),.int .i64 (nth m 2),.int .i64 (nth m 3),.int .i64 (nth m 4),.int .i64 (nth m 5),.int .i64 (nth m 6)]] W (Post W fun _ r=>r=.int .i64 (lexN m' m 7))):=Lib.hid fun W=>pcmpR_calls W m' m
   obtain ⟨c,hc⟩:∃c,c=lexN m' m 7:=⟨_,rfl⟩
   rw[←hc]at KO
   have w1':IntKind.i64.wrap ((i:Int) - 1)=j:=by rw[IntKind.wrap_i64];omega
   have w2':decide ((0:Int)<(i:Int))=true:=decide_eq_true (by omega)
   have w3':decide (0<i)=true:=decide_eq_true hi0
   have w4':(0:Int)≤(j:Int):=by omega
   have w5':(j:Int)<(l.length:Int):=by omega
   have HUN:Hid (0≤c→r=14):=Lib.hid fun h=>HST.out 14 (HM.out.un HE.out HN.out hi0 j hj (by rw[←hm',←HMM.out,←hc];exact h)) (by decide)
   have HFI:Hid (c<0→(0<i→∀j,j=i - 1→lexN (nthL l j) (nthL l i) 7<0)):=Lib.hid fun h _ j2 hj2=>by
    subst hj2;rw[←hj,←hm',←HMM.out,←hc];exact h
   clear hc hj hz hm'
   go_wp2
   clear m0
   have m0:=RM2.cell (j:=0) rfl
   have m1:=RM2.cell (j:=1) rfl
   have m2:=RM2.cell (j:=2) rfl
   have m3:=RM2.cell (j:=3) rfl
   have m4:=RM2.cell (j:=4) rfl
   have m5:=RM2.cell (j:=5) rfl
   have m6:=RM2.cell (j:=6) rfl
   go_still_tail 11,(by kernel_rfl)
   refine draw_list fun w2 hq2=>?_
   clear q1 z0 z1 z2 z3 z4 z5 z6 m0 m1 m2 m3 m4 m5 m6 t0 w1' w4' w5'
   go_wp2_with fail
   refine (KO.out _).mono ?_
   rintro _ w3 ⟨_,rfl,hb3,rfl⟩
   have hq3:=ext_trans hq2.ext hb3
   have hx3:=ext_trans hx1 hq3
   have RA3:=RA2.ext hq3
   have RM3:=RM2.ext hq3
   clear KO hb3
   by_cases hc0:0≤c
   ·have RR:=Lib.hid (HUN.out hc0)
    go_wp2
    go_ret
    exact .mk hx3 (int_eq RR.out.symm)
   have HF:=Lib.hid (HFI.out (by omega))
   have t1:=RA3.cell (j:=1) rfl
   have m7:=RM3.cell (j:=7) rfl
   obtain ⟨to,hto⟩:∃x,x=nth m 7:=⟨_,rfl⟩
   rw[←hto]at m7
   have HTO:Hid (nth (nthL l i) 7=to):=Lib.hid (by rw[hto,HMM.out])
   clear hto
   by_cases ht1:to<0
   ·have RR:=Lib.hid (HST.out 2 (HM.out.to HE.out HN.out HF.out (.inl (by rw[HTO.out];exact ht1))) (by decide))
    go_wp2
    go_ret
    exact .mk hx3 (int_eq RR.out.symm)
   by_cases ht2:(st.length:Int)≤to
   ·have RR:=Lib.hid (HST.out 2 (HM.out.to HE.out HN.out HF.out (.inr (by rw[HTO.out];exact ht2))) (by decide))
    go_wp2
    go_ret
    exact .mk hx3 (int_eq RR.out.symm)
   ·have HZ2:=Lib.hid (HZ.out.next (HM.out.fine HE.out HN.out HF.out (by rw[HTO.out];omega)))
    go_wp2
    go_roundw
    case rel=>exact ⟨i+1,by omega,by go_num,hx3,RA3,HZ2⟩
    case measure=>simp[intOf];omega
  case neg=>
   have HF:Hid (0<i→∀j,j=i - 1→lexN (nthL l j) (nthL l i) 7<0):=Lib.hid fun h=>by omega
   have w2':decide ((0:Int)<(i:Int))=false:=decide_eq_false (by omega)
   have w3':decide (0<i)=false:=decide_eq_false hi0
   go_wp2
   go_quiet (fail)
   refine draw_then fun w3 hq3'=>?_
   have hq3:=hq3'.ext
   have hx3:=ext_trans hx1 hq3
   have RA3:=RA2.ext hq3
   have RM3:=RM2.ext hq3
   clear t0 m0
   have t1:=RA3.cell (j:=1) rfl
   have m7:=RM3.cell (j:=7) rfl
   obtain ⟨to,hto⟩:∃x,x=nth m 7:=⟨_,rfl⟩
   rw[←hto]at m7
   have HTO:Hid (nth (nthL l i) 7=to):=Lib.hid (by rw[hto,HMM.out])
   clear hto
   by_cases ht1:to<0
   ·have RR:=Lib.hid (HST.out 2 (HM.out.to HE.out HN.out HF.out (.inl (by rw[HTO.out];exact ht1))) (by decide))
    go_wp2
    go_ret
    exact .mk hx3 (int_eq RR.out.symm)
   by_cases ht2:(st.length:Int)≤to
   ·have RR:=Lib.hid (HST.out 2 (HM.out.to HE.out HN.out HF.out (.inr (by rw[HTO.out];exact ht2))) (by decide))
    go_wp2
    go_ret
    exact .mk hx3 (int_eq RR.out.symm)
   ·have HZ2:=Lib.hid (HZ.out.next (HM.out.fine HE.out HN.out HF.out (by rw[HTO.out];omega)))
    go_wp2
    go_roundw
    case rel=>exact ⟨i+1,by omega,by go_num,hx3,RA3,HZ2⟩
    case measure=>simp[intOf];omega
end Go.Proofs.YtaijafjfafbcfaaGreat
namespace Go.Proofs.YtaijafjfafbcfaaGreat
open Go.RowKit Go.Shelf
theorem Row.putObj {w:World} {g:Nat} {e:TypeId} {xs:List Value} (h:Row w g e xs) {r:Nat} {o:Obj} (o':Obj) (hr:w.heap[r]? =some o) (ho:o.isCells=false):Row (w.putObj r o') g e xs:=by
 refine h.grown (grownBy_putObj' w r o') fun e=>?_
 cases e
 unfold Row at h
 rw[hr]at h
 cases h
 cases ho
theorem putObj_alloc {w:World} {r:Nat} (o o':Obj) (h:r<w.heap.size):(w.alloc o).putObj r o'=(w.putObj r o').alloc o:=by
 unfold World.putObj World.alloc
 simp only[World.mk.injEq,and_true]
 apply Array.ext_getElem?
 intro i
 rw[Array.getElem?_setIfInBounds,Array.getElem?_push,Array.getElem?_push,Array.getElem?_setIfInBounds,Array.size_push,Array.size_setIfInBounds]
 by_cases e:r=i
 ·subst e
  rw[if_pos rfl,if_pos (by omega),if_neg (by omega),if_pos rfl,if_pos h]
 ·rw[if_neg e]
  by_cases e2:i=w.heap.size
  ·rw[if_pos e2,if_pos e2]
  ·rw[if_neg e2,if_neg e2,if_neg e]
theorem rangeFunc_sa {F:Fence} {n:Nat} {P:Program} {α:Type} {g:Operand} {ps:Array Tmp} {assign body:Code} {Q:Exit→Act→World→Prop} {a:Act} {w:World}
  (hro:F.round=none) (h1:1≤n) {gf:Nat} {lb:Array Value} (hg:a.eval g=.func (.func gf) #[] lb) (hFg:F.fn gf) (eg:∀args w,(callFunc gf args).run P w=.ok (.enter gf args) w)
  {encs:α→Array Value} {Kp:World→World→Prop} {S Sp:List α→Prop} {N:Nat} (hseq:SeqStopsK F (n - 1) P gf lb encs Kp S Sp N w)
  (hKt:∀{A B C:World},Kp A B→Kp B C→Kp A C) (hKb:∀(W:World) (l:Nat) (o o':Obj),w.heap.size≤l→W.heap[l]? =some o→o.isCells=false→o.isWalk=false→Kp W (W.putObj l o')) (hKa:∀(W:World) (o:Obj),w.heap.size≤W.heap.size→Kp W (W.alloc o)) (hps:∀x,(encs x).size=ps.size)
  (I:List α→World→Prop) (Ix:Code→List α→World→Prop) (hI:OwnFrom w.heap.size I) (hIx:∀c,OwnFrom w.heap.size (Ix c)) (h0:I [] w) (ob:α→Obj) (a₁:Nat→α→Act)
  (hassign:∀(l:Nat) (x:α) (W:World) (g:Nat) (K:Act→World→Prop),g=W.heap.size→K (a₁ g x) (W.alloc (ob x))→
   assign.wpIn (F.inRound l) (n - 1 - 1) P (Exit.then K (fun _ _ _=>False)) {tmps:=(ps.zip (encs x)).foldl (fun t (p,v)=>t.setIfInBounds p v) a.tmps,defers:=[]} W)
  (hbody:∀(l:Nat) (pre:List α) (x:α) (W:World),I pre W→w.heap.size≤W.heap.size→pre.length<N→body.wpIn (F.inRound l) (n - 1 - 1) P (ownPostK Kp I Ix (pre++[x]) (W.alloc (ob x))) (a₁ W.heap.size x) (W.alloc (ob x)))
  (hdone:∀(D:Nat) (xs:List α) (W:World),w.heap.size≤D→S xs→I xs W→W.heap[D]? =some (.deferred (some []))→Q .normal {a with defers:={target:=.collected D,args:=#[]}::a.defers} W)
  (hstop:∀(D:Nat) (c:Code) (pre:List α) (W:World),w.heap.size≤D→Sp pre→Ix c pre W→W.heap[D]? =some (.deferred (some []))→c.wpIn F n P Q {a with defers:={target:=.collected D,args:=#[]}::a.defers} W):
  (Code.rangeFunc g ps assign body).wpIn F n P Q a w:=by
 refine wpIn_rangeFunc fun fn hfn=>?_
 rw[hro]
 obtain ⟨D,hD⟩:∃D,D=w.heap.size:=⟨_,rfl⟩
 obtain ⟨mk,hmk⟩:∃mk:LoopState→Option Code→Loop,mk=fun st pe=>{state:=st,pending:=pe,fn:=fn,tmps:=a.tmps,params:=ps,assign:=assign,body:=body,defers:=D}:=⟨_,rfl⟩
 obtain ⟨U,hU⟩:∃U,U=(w.alloc (.deferred (some []))).alloc (.loop (mk .ready none)):=⟨_,rfl⟩
 have bU:Below w.heap.size w U:=by rw[hU];exact ((Below.refl _ w).alloc (Nat.le_refl _) _).alloc (by simp) _
 have lU:U.heap[D+1]? =some (.loop (mk .ready none)):=by
  rw[hU,hD]
  have:=World.alloc_heap_new (w.alloc (.deferred (some []))) (.loop (mk .ready none))
  rwa [World.size_alloc]at this
 have dU:U.heap[D]? =some (.deferred (some [])):=by
  rw[hU,hD]
  exact (Below.heap_alloc _ _ _ (by simp)).trans (World.alloc_heap_new w _)
 have sU:D+1<U.heap.size:=(Array.getElem?_eq_some_iff.1 lU).1
 have iU:I [] U:=by rw[hU];exact hI.alloc _ (hI.alloc _ h0)
 have hen:=run_enterLoop_outer (P:=P) (w:=w) fn a.tmps ps assign body
 rw[←hD,show ({state:=.ready,pending:=none,fn,tmps:=a.tmps,params:=ps,assign,body,defers:=D}:Loop)=mk .ready none from by rw[hmk],←hU]at hen
 refine ⟨D+1,_,U,{target:=.fn (.func gf) lb,args:=#[.func (.yield (D+1)) #[] #[]]},U,gf,#[.func (.yield (D+1)) #[] #[]]++lb,U,hen,?_,?_,?_,fun _=>h1,?_⟩
 ·simp only[resolve,hg]
  simp[go_sem]
 ·intro f hf
  simp[Target.leads]at hf
  exact hf▸hFg
 ·simp[invoke,go_sem,eg]
 have keepW:∀{A B:World} {row:Option Nat} {o:Obj} {k:Nat},A.heap[k]? =some o→o.isWalk=false→A.grownBy B row→(∀r,row=some r→U.heap.size≤r∧∃o:Obj,A.heap[r]? =some o∧o.isWalk=true)→B.heap[k]? =some o:=by
  intro A B row o k hk hw hg' hr
  refine (hg'.block k (Array.getElem?_eq_some_iff.1 hk).1 fun e=>?_).trans hk
  obtain ⟨_,o2,h2,h3⟩:=hr k e.symm
  rw[hk]at h2
  cases h2
  rw[hw]at h3
  cases h3
 have walkRow:∀{A:World} {row:Option Nat},(∀r,row=some r→U.heap.size≤r∧∃o:Obj,A.heap[r]? =some o∧o.isWalk=true)→(∀r,row=some r→w.heap.size≤r∧∃o:Obj,A.heap[r]? =some o∧o.isCells=false):=fun hr r e=>by
  obtain ⟨hB,o,ho,hw⟩:=hr r e
  exact ⟨by have:=bU.size;omega,o,ho,Obj.not_cells_of_walk hw⟩
 refine (hseq (D+1) (fun pre W=>I pre W∧W.heap[D+1]? =some (.loop (mk .ready none))∧W.heap[D]? =some (.deferred (some [])))
  (fun pre W=>∃c,Ix c pre W∧W.heap[D+1]? =some (.loop (mk .done (some c)))∧W.heap[D]? =some (.deferred (some []))) U bU
  (fun s A B row hs hg' hr=>⟨hI s A B row hs.1 hg' (walkRow hr),keepW hs.2.1 rfl hg' hr,keepW hs.2.2 rfl hg' hr⟩)
  (fun s A B row hs hg' hr=>by
   obtain ⟨c,hc,hl,hk⟩:=hs
   exact ⟨c,hIx c s A B row hc hg' (walkRow hr),keepW hl rfl hg' hr,keepW hk rfl hg' hr⟩) ?_ ⟨iU,lU,dU⟩).mono ?_
 ·rintro pre x W ⟨hi,hl,hd⟩ hlen
  have hlt:=(Array.getElem?_eq_some_iff.1 hl).1
  have hy:=run_yield (P:=P) (args:=encs x) hl (by rw[hmk];exact hps x)
  have hla:(W.alloc (ob x)).heap[D+1]? =some (.loop (mk .ready none)):=(heap_alloc_old W _ hlt).trans hl
  have hbeg:=run_beginRound (P:=P) hla (by rw[hmk])
  refine ⟨fn,(ps.zip (encs x)).foldl (fun t (p,v)=>t.setIfInBounds p v) a.tmps,assign,body,by rw[hmk]at hy;rw[hy],roundIn_of_wpIn hfn (hassign _ x W _ _ rfl ⟨_,hbeg,?_⟩)⟩
  obtain ⟨bz,hbz⟩:∃bz,bz=Obj.loop {mk .ready none with state:=.busy}:=⟨_,rfl⟩
  rw[←hbz,putObj_alloc _ _ hlt]
  have l2:(W.putObj (D+1) bz).heap[D+1]? =some bz:=World.putObj_heap_same hlt
  have d2:(W.putObj (D+1) bz).heap[D]? =some (.deferred (some [])):=(World.putObj_heap_other (by omega)).trans hd
  have k2:Kp W (W.putObj (D+1) bz):=hKb _ _ _ _ (by omega) hl rfl rfl
  have sz:(W.putObj (D+1) bz).heap.size=W.heap.size:=World.putObj_size ..
  have l2a:((W.putObj (D+1) bz).alloc (ob x)).heap[D+1]? =some bz:=(heap_alloc_old _ _ (by rw[sz];exact hlt)).trans l2
  have d2a:((W.putObj (D+1) bz).alloc (ob x)).heap[D]? =some (.deferred (some [])):=(heap_alloc_old _ _ (by rw[sz];omega)).trans d2
  have k2a:=hKt k2 (hKa (W.putObj (D+1) bz) (ob x) (by rw[sz];omega))
  have hb:=hbody (D+1) pre x _ (hI.putObj bz hi (by omega) hl rfl) (by rw[sz];omega) hlen
  rw[sz]at hb
  refine wpIn_mono hb ?_
  have fin:∀(jump:Option Code) (W3:World),KeepsOthers ((W.putObj (D+1) bz).alloc (ob x)) W3→
    (Instr.endRound (D+1) jump).run P W3=.ok (.bool jump.isNone) (W3.putObj (D+1) (.loop (mk (if jump.isNone then .ready else .done) jump)))∧W3.heap[D+1]? =some bz∧
    (W3.putObj (D+1) (.loop (mk (if jump.isNone then .ready else .done) jump))).heap[D+1]? =some (.loop (mk (if jump.isNone then .ready else .done) jump))∧
    (W3.putObj (D+1) (.loop (mk (if jump.isNone then .ready else .done) jump))).heap[D]? =some (.deferred (some [])):=fun jump W3 hk3=>by
   have l3:=hk3.same _ _ l2a (by rw[hbz];rfl)
   have d3:=hk3.same _ _ d2a rfl
   have l3':=l3
   rw[hbz]at l3'
   have hr:=run_endRound (P:=P) jump l3'
   rw[hmk]at hr ⊢
   exact ⟨hr,l3,World.putObj_heap_same (Array.getElem?_eq_some_iff.1 l3).1,(World.putObj_heap_other (by omega)).trans d3⟩
  have hbc:bz.isCells=false:=by rw[hbz];rfl
  have hbw:bz.isWalk=false:=by rw[hbz];rfl
  rintro e a3 W3 hp
  cases e with
  | normal=>
   obtain ⟨hk3,hkp,hi3⟩:=hp
   obtain ⟨hr,l3,l4,d4⟩:=fin none W3 hk3
   exact ⟨_,_,hr,.inl ⟨rfl,⟨hI.putObj _ hi3 (by omega) l3 hbc,l4,d4⟩,hKt (hKt k2a hkp) (hKb _ _ _ _ (by omega) l3 hbc hbw)⟩⟩
  | ret=>
   obtain ⟨hk3,hi3⟩:=hp
   obtain ⟨hr,l3,l4,d4⟩:=fin (some .ret) W3 hk3
   exact ⟨_,_,hr,.inr ⟨rfl,.ret,(hIx _).putObj _ hi3 (by omega) l3 hbc,l4,d4⟩⟩
  | exit id=>
   obtain ⟨hk3,hi3⟩:=hp
   obtain ⟨hr,l3,l4,d4⟩:=fin (some (.exit id)) W3 hk3
   exact ⟨_,_,hr,.inr ⟨rfl,.exit id,(hIx _).putObj _ hi3 (by omega) l3 hbc,l4,d4⟩⟩
  | goto t=>
   obtain ⟨hk3,hi3⟩:=hp
   obtain ⟨hr,l3,l4,d4⟩:=fin (some (.goto t)) W3 hk3
   exact ⟨_,_,hr,.inr ⟨rfl,.goto t,(hIx _).putObj _ hi3 (by omega) l3 hbc,l4,d4⟩⟩
  | panic ch=>exact hp.elim
  | outgrown=>exact hp.elim
 ·rintro e W2 ⟨⟨v,rfl⟩,(⟨xs,hS,hi,hl,hd⟩ | ⟨pre,hSp,c,hi,hl,hd⟩)⟩
  ·have hr:=run_endLoop (P:=P) hl (by rw[hmk];simp)
   refine ⟨none,_,by rw[hr,hmk],?_⟩
   have:=hdone D xs (W2.putObj (D+1) (.loop {mk .ready none with state:=.exhausted})) (by omega) hS (hI.putObj _ hi (by omega) hl rfl) ((World.putObj_heap_other (by omega)).trans hd)
   rw[hmk]at this
   exact this
  ·have hr:=run_endLoop (P:=P) hl (by rw[hmk];simp)
   refine ⟨some c,_,by rw[hr,hmk],?_⟩
   have:=hstop D c pre (W2.putObj (D+1) (.loop {mk .done (some c) with state:=.exhausted})) (by omega) hSp ((hIx c).putObj _ hi (by omega) hl rfl) ((World.putObj_heap_other (by omega)).trans hd)
   rw[hmk]at this
   exact this
theorem agreeK_a {T:Nat→Prop} {w:World} (W:World) (o:Obj) (_:w.heap.size≤W.heap.size):Agree T W (W.alloc o):=(Agree.refl T W).alloc o
end Go.Proofs.YtaijafjfafbcfaaGreat
