/- Part of the proof that the laws answer true for every input. -/
import Derived.Test.YtaijafjfafbcfaaGreatPXb42
set_option linter.unusedSimpArgs false
set_option linter.unnecessarySimpa false
set_option linter.unusedVariables false
set_option maxRecDepth 100000
set_option maxHeartbeats 40000000
namespace Go.Proofs.YtaijafjfafbcfaaGreat
open Go.RowKit Go.Shelf
attribute [local go_sem ↓] Go.wp_at_zero Go.wp_at_succ
attribute [local go_sem] Oper.semAt_some
structure SeaL (s:SysF) (f QC:Nat) (w:World) (ds:List Deferred) (wr:World):Prop where
 ex:∃(out:List Int) (Q:List Nat) (qv:Value),Below w.heap.size w wr∧Row wr (w.heap.size) 3 ((out).map (Value.int .i64))∧Row wr (w.heap.size+1) 44 [.slice (some ⟨w.heap.size,0,none⟩) s.ex.length s.ex.length]∧Row wr QC 44 [qv]∧w.heap.size+2≤QC∧Hid (OwnQ wr (w.heap.size+2) qv (castL Q))∧Hid (BfsS s f out Q)∧Q.length+negN out≤s.ex.length+1∧Hid (Marks w.heap.size wr ds)
structure SeaI (s:SysF) (f x QC qg C0:Nat) (w w3:World) (pre:List {x_:Nat // x_<s.ex.length∧adjB s x x_=true}) (W:World):Prop where
 ex:∃(out:List Int) (R:List Nat) (qv':Value),Row W (w.heap.size) 3 ((out).map (Value.int .i64))∧Row W QC 44 [qv']∧OwnQ W (w.heap.size+2) qv' (castL (x::R))∧BfsP s f x (pre.map (·.1)) out (x::R)∧R.length+1+negN out=C0∧(qv'.ownBlock=some qg∨∃k,qv'.ownBlock=some k∧w3.heap.size≤k)∧Agree (fun b=>b<w3.heap.size∧b≠w.heap.size∧b≠QC∧b≠qg) w3 W∧Below w.heap.size w W
theorem distances_calls {B:Nat} {w:World} {g:Nat} {la:Option Addr} {lc:Nat} {s:SysF} {f:Nat} (h:FinP B w g la lc s) (hl:s.ex.length≤4096) (hN5:s.N≤5) (hf:f<s.ex.length):
  Calls Tryz.prog 42 #[.pointer (some ⟨g,0,none⟩),.int .i64 f] w (Post w fun w' r=>Ints (fun b=>w.heap.size≤b) w' r (dstL s f)):=by
 have HF:=Lib.hid h.t
 have x1:=h.x1
 have lg:=h.row.lt
 have HBS:=Lib.hid (bfs_start hf)
 have HWF:=Lib.hid (dstL_wf f hl)
 have HDL:=Lib.hid (dstL_len s f)
 have hmk:=run_make_row' 44 3 (.int .i64 0) 8 Tryz.underlying44 info3 rfl .i64 .i64 s.ex.length (by omega) (by omega)
 have R1:=(Row.made w (.int .i64 0) s.ex.length 3).alloc (.cells #[.slice (some ⟨w.heap.size,0,none⟩) s.ex.length s.ex.length] 44)
 have R2:=row_new (w.alloc (.cells (madeCells #[.int .i64 0] s.ex.length) 3)) [.slice (some ⟨w.heap.size,0,none⟩) s.ex.length s.ex.length] 44
 rw[←fillL_zero]at R1
 rw[World.size_alloc]at R2
 have ex:=ext_alloc' (ext_alloc w (.cells (madeCells #[.int .i64 0] s.ex.length) 3)) (.cells #[.slice (some ⟨w.heap.size,0,none⟩) s.ex.length s.ex.length] 44)
 have c2:=R2.cell (j:=0) rfl
 have l2:=R2.lt
 clear h
 refine (callsIn_wide (n:=6)).1 ?_
 refine callsIn_of_wp_marks Tryz.func42 rfl trivial ?_ rfl
 simp only[Tryz.ntmps42,List.size_toArray,List.length_cons,List.length_nil,Nat.reduceAdd,Nat.reduceSub,Array.replicate_succ,Array.replicate_zero,List.push_toArray,List.append_toArray,List.nil_append,List.cons_append]
 refine wpIn_wide.2 ?_
 go_wp2
 clear x1 lg hmk c2 l2
 go_loopw [6,17] (fun _ i wr=>∃k:Nat,k≤s.ex.length∧i=.int .i64 k∧Below w.heap.size w wr∧Row wr (w.heap.size) 3 ((fillL s.ex.length k).map (Value.int .i64))∧Row wr (w.heap.size+1) 44 [.slice (some ⟨w.heap.size,0,none⟩) s.ex.length s.ex.length]) (fun _ i _=>s.ex.length - (intOf i).toNat)
 case atStart=>exact ⟨0,Nat.zero_le _,rfl,ex,R1,R2⟩
 case round=>
  clear ex R1 R2
  obtain ⟨k,hk,rfl,ex,R1,R2⟩:=hrel
  have c2:=R2.cell (j:=0) rfl
  have l2:=R2.lt
  by_cases hlt:k<s.ex.length
  case pos=>
   have c1:=R1.intAt (k:=k) (by rw[fillL_len hk];exact hlt)
   have f1:=R1.free k
   have l1:=R1.lt
   have R2':=R2.grown (grownBy_setCell wr (w.heap.size) k (.int .i64 (-1))) (fun e=>by injection e with e;omega)
   have R1':=R1.intSet k (-1)
   rw[fillL_set hlt]at R1'
   have ex':=ex.setCell (p:=⟨w.heap.size,k,none⟩) (by dsimp only;omega) (.int .i64 (-1))
   clear R1 R2 ex
   go_wp2
   go_roundw
   case rel=>exact ⟨k+1,by omega,by go_num,ex',R1',R2'⟩
   case measure=>simp[intOf];omega
  obtain rfl:k=s.ex.length:=by omega
  rw[fillL_full]at R1
  have c1:=R1.intAt (k:=f) (by simp;exact hf)
  have f1:=R1.free f
  have l1:=R1.lt
  have R2':=((R2.grown (grownBy_setCell wr (w.heap.size) f (.int .i64 0)) (fun e=>by injection e with e;omega)).alloc (.cells #[.int .i64 f] 3)).alloc (.cells #[.slice (some ⟨wr.heap.size,0,none⟩) 1 1] 44)
  have R1':=((R1.intSet f 0).alloc (.cells #[.int .i64 f] 3)).alloc (.cells #[.slice (some ⟨wr.heap.size,0,none⟩) 1 1] 44)
  have RQ:=(row_new (wr.setCell ⟨w.heap.size,f,none⟩ (.int .i64 0)) [.int .i64 f] 3).alloc (.cells #[.slice (some ⟨wr.heap.size,0,none⟩) 1 1] 44)
  have RQC:=row_new ((wr.setCell ⟨w.heap.size,f,none⟩ (.int .i64 0)).alloc (.cells #[.int .i64 f] 3)) [.slice (some ⟨wr.heap.size,0,none⟩) 1 1] 44
  have ex':=((ex.setCell (p:=⟨w.heap.size,f,none⟩) (by dsimp only;omega) (.int .i64 0)).alloc (by have:=ex.size;simpa using this) (.cells #[.int .i64 f] 3)).alloc (by have:=ex.size;simp;omega) (.cells #[.slice (some ⟨wr.heap.size,0,none⟩) 1 1] 44)
  have hse:(wr.setCell ⟨w.heap.size,f,none⟩ (.int .i64 0)).heap.size=wr.heap.size:=by simp
  rw[hse]at RQ
  rw[World.size_alloc,hse]at RQC
  have c2':=R2'.cell (j:=0) rfl
  have hws:=ex.size
  clear R1 R2 ex hse
  go_wp2
  obtain ⟨w1,hw1⟩:∃w1,w1=(((wr.setCell ⟨w.heap.size,f,none⟩ (.int .i64 0)).alloc (.cells #[.int .i64 f] 3)).alloc (.cells #[.slice (some ⟨wr.heap.size,0,none⟩) 1 1] 44)):=⟨_,rfl⟩
  obtain ⟨QB,hQB⟩:∃QB,QB=wr.heap.size:=⟨_,rfl⟩
  rw[←hQB]at RQ RQC R1' R2' ex' hw1 hws ⊢
  rw[←hw1]at RQ RQC R1' R2' ex' ⊢
  have HQ0:=Lib.hid (OwnQ.one (base:=w.heap.size+2) RQ (by have:=l2;omega))
  have HS0:Hid (BfsS s f ((List.replicate s.ex.length (-1)).set f 0) [f]):=Lib.hid (.inr ⟨f,[],rfl,HBS.out⟩)
  have hC0:1+negN ((List.replicate s.ex.length (-1)).set f 0)≤s.ex.length+1:=by have:=negN_le ((List.replicate s.ex.length (-1)).set f 0);simp at this;omega
  have hQ2:w.heap.size+2≤QB+1:=by have:=l2;omega
  have HM0:=Lib.hid (Marks.nil w.heap.size w1)
  clear hw1 hQB c1 f1 l1 c2 l2 c2' RQ HBS hws wr
  refine wp_loop (fun a' wr=>∃(ds:List Deferred) (u29 u30 u31 u32 u33 u34 u35 u36 u37 u38 u60:Value) (QC:Nat),SeaL s f QC w ds wr∧a'={tmps:=#[.pointer (some ⟨g,0,none⟩),.int .i64 f,undef,undef,.slice none 0 0,.pointer (some ⟨w.heap.size+1,0,none⟩),u6,.pointer (some ⟨QC,0,none⟩),undef,.pointer (some ⟨g,0,none⟩),.pointer (some ⟨g,0,none⟩),.pointer (some ⟨g,1,none⟩),.slice la s.ex.length lc,.int .i64 s.ex.length,.slice (some ⟨w.heap.size,0,none⟩) s.ex.length s.ex.length,.slice (some ⟨w.heap.size,0,none⟩) s.ex.length s.ex.length,.int .i64 s.ex.length,.int .i64 s.ex.length,.bool false,u19,u20,u21,u22,u23,.slice (some ⟨w.heap.size,0,none⟩) s.ex.length s.ex.length,.int .i64 f,.pointer (some ⟨w.heap.size,f,none⟩),.int .i64 f,.slice (some ⟨QB,0,none⟩) 1 1,u29,u30,u31,u32,u33,u34,u35,u36,u37,u38,undef,undef,undef,undef,undef,undef,undef,undef,undef,undef,undef,undef,undef,undef,undef,undef,undef,undef,undef,undef,undef,u60,undef],defers:=ds}) (fun a' wr=>lenC wr (a'.tmps.getD 7 undef)+negR wr w.heap.size) ?_ ?_
  ·(repeat apply Exists.intro)
   refine ⟨?_,rfl⟩
   exact ⟨⟨_,[f],_,ex',R1',R2',RQC,hQ2,HQ0,HS0,by simpa using hC0,HM0⟩⟩
  ·intro _ wr hinv
   obtain ⟨ds,u29,u30,u31,u32,u33,u34,u35,u36,u37,u38,u60,QC,hrel,ha⟩:=hinv
   subst ha
   clear ex' R1' R2' RQC hQ2 HQ0 HS0 hC0 HM0 w1
   obtain ⟨out,Q,qv,hb,R1,R2,RQC,hQC,HQ,HS,hC,HMK⟩:=hrel.ex
   clear hrel
   have cq:=RQC.cell (j:=0) rfl
   have lq:=RQC.lt
   have c2:=R2.cell (j:=0) rfl
   have l2:=R2.lt
   have hNR:=Lib.hid (negR_eq R1)
   rcases HS.out with ⟨rfl,hfar⟩ | ⟨x,R,rfl,hin⟩
   ·obtain ⟨qg,qo,qc,hqv,_,_,_,_⟩:=HQ.out.form
    have hqv2:qv=.slice (some ⟨qg,qo,none⟩) 0 qc:=hqv
    subst hqv2
    rw[hfar.eq]at R1
    have H1:=Lib.hid R1
    have HBW:=Lib.hid hb
    clear hqv hfar HS HQ R1 R2 RQC hC hNR hb
    go_wp2
    refine bodyM_ret (leaves_marks HMK.out HBW.out.size fun W' hbel hrow=>?_)
    have hI:=((hrow _ _ _ H1.out).ints (by rw[HDL.out];unfold maxLen;omega) HWF.out).mono (S':=fun b=>w.heap.size≤b) fun b hb=>by omega
    rw[HDL.out]at hI
    exact ⟨.slice (some ⟨w.heap.size,0,none⟩) s.ex.length s.ex.length,by simp[results,Tryz.results42,go_sem],.mk (HBW.out.trans hbel) hI⟩
   have hQf:=HQ.out.form
   obtain ⟨qg,qo,qc,hqv,hqg,hqgl,hqc,hqm⟩:=hQf
   rw[castL_len,List.length_cons]at hqv hqc
   subst hqv
   have hd:=(show OwnQ wr (w.heap.size+2) (.slice (some ⟨qg,qo,none⟩) (R.length+1) qc) ((x:Int)::castL R) from HQ.out).head
   have hxh:=hin.head
   have HIN:=Lib.hid hin
   have hxn:x<s.ex.length:=hxh.1
   have lg:=((HF.out.ext hb).row).lt
   have KN:=Lib.hid (nbrsM_calls wr g x)
   clear hin HS hxh
   go_wp2_with fail
   refine KN.out.mono ?_
   rintro _ _ ⟨rfl,rfl⟩
   clear KN cq lq c2 l2 hd lg
   have RC1:=(row_new wr [.pointer (some ⟨g,0,none⟩)] 83).alloc (.cells #[.int .i64 x] 3)
   have RC2:=row_new (wr.alloc (.cells #[.pointer (some ⟨g,0,none⟩)] 83)) [.int .i64 x] 3
   rw[World.size_alloc]at RC2
   have hb3:Below wr.heap.size wr ((wr.alloc (.cells #[.pointer (some ⟨g,0,none⟩)] 83)).alloc (.cells #[.int .i64 x] 3)):=ext_alloc' (ext_alloc wr _) _
   have hz3:((wr.alloc (.cells #[.pointer (some ⟨g,0,none⟩)] 83)).alloc (.cells #[.int .i64 x] 3)).heap.size=wr.heap.size+2:=by simp
   obtain ⟨w3,hw3⟩:∃w3,w3=(wr.alloc (.cells #[.pointer (some ⟨g,0,none⟩)] 83)).alloc (.cells #[.int .i64 x] 3):=⟨_,rfl⟩
   rw[←hw3]at RC1 RC2 hb3 hz3 ⊢
   have hx3:=ext_trans hb hb3
   have R13:=R1.ext hb3
   have R23:=R2.ext hb3
   have RQ3:=RQC.ext hb3
   have HQ3:=Lib.hid (HQ.out.ext hb3)
   have HM3:=Lib.hid (HMK.out.ext hb3)
   have hQCl:QC<wr.heap.size:=RQC.lt
   have hOBl:w.heap.size+1<wr.heap.size:=R2.lt
   have hMS:lenC wr (.pointer (some ⟨QC,0,none⟩))+negR wr w.heap.size=R.length+1+negN out:=by
    rw[hNR.out,lenC_eq (RQC.cell (j:=0) rfl)];rfl
   have HMS:=Lib.hid hMS
   obtain ⟨NB,hNB⟩:∃NB,NB=wr.heap.size:=⟨_,rfl⟩
   rw[←hNB]at RC1 RC2 hz3 hQCl hOBl hqgl ⊢
   have hC2:R.length+1+negN out≤s.ex.length+1:=by simpa using hC
   have HMSR:Hid (∀a,a<R.length+1+negN out→a<lenC wr (.pointer (some ⟨QC,0,none⟩))+negR wr w.heap.size):=Lib.hid fun a ha=>by rw[HMS.out];exact ha
   clear hw3 hNB R1 R2 RQC hb hb3 HMK HQ hNR hMS HMS hC
   have hTw:∀b,(b<w.heap.size∨b=NB∨b=NB+1)→b<w3.heap.size:=fun b hb=>by have:=hx3.size;omega
   have HST:=nbrs_stops (T:=fun b=>b<w.heap.size∨b=NB∨b=NB+1) (n:=5) (by decide) RC1 RC2 ((HF.out.ext hx3).mono fun b hb=>.inl hb) hN5 hxn hl (.inr (.inl rfl)) (.inr (.inr rfl)) hTw
   have HP0:Hid (BfsP s f x [] out (x::R)):=Lib.hid ⟨HIN.out,fun g hg=>by cases hg⟩
   obtain ⟨C0,hC0⟩:∃C0,C0=R.length+1+negN out:=⟨_,rfl⟩
   rw[←hC0]at hC2 HMSR
   clear RC1 RC2 HIN
   go_wp2
   refine wpIn_wide (n:=6).1 ?_
   apply wpIn_rangeFunc_ownF (n:=6) rfl (by decide) (gf:=65) (lb:=#[.pointer (some ⟨NB,0,none⟩),.pointer (some ⟨NB+1,0,none⟩)]) rfl trivial (enters_of Tryz.func65 (by kernel_rfl) rfl)
    HST agreeK_t (agreeK_b hTw) (Below.refl _ _) (fun _=>rfl)
    (fun (pre:List {x_:Nat // x_<s.ex.length∧adjB s x x_=true}) W=>SeaI s f x QC qg C0 w w3 pre W)
    (fun c (pre:List {x_:Nat // x_<s.ex.length∧adjB s x x_=true}) W=>False)
    (fun pre A C row h hg hr=>by
     obtain ⟨out,R,qv,h1,h2,h3,h4,h5,h6,h7,h8⟩:=h.ex
     have hnb:∀b,b<w3.heap.size→row≠some b:=fun b hb e=>by have:=(hr _ e).1;omega
     refine ⟨⟨out,R,qv,h1.grown hg (hnb _ (by omega)),h2.grown hg (hnb _ (by omega)),h3.agree (S:=fun b=>row≠some b) (.of_grown hg fun b hb=>hb) (fun k hk e=>?_),h4,h5,h6,h7.trans (.of_grown hg fun b hb=>hnb b hb.1),h8.grown hg h8.size (fun k hk=>by have:=(hr k hk).1;omega)⟩⟩
     obtain ⟨_,o,ho,hc⟩:=hr k e
     obtain ⟨g',off,cap,cur,rfl,_,hR,_⟩:=h3
     cases hk
     unfold Row at hR
     rw[hR]at ho
     cases ho
     cases hc)
    (fun c=>ownFrom_false _)
    ⟨⟨out,R,_,R13,RQ3,HQ3.out,HP0.out,hC0.symm,.inl rfl,.refl _ _,hx3⟩⟩
   case hassign=>
    intro l x W Kq hK
    have hK:=Lib.hid hK
    gi_wp2
    exact hK.out
   case hbody=>
    rintro l pre ⟨y,hyl,hya⟩ W ⟨⟨out,R,qv,P1,PQ,hQW,hBP,hCC,hqb,hA,hBW⟩⟩ hlen
    clear hC0
    have hqf:=hQW.form
    obtain ⟨qg',qo',qc',hqv,hqgb,hqgl',hqcl',_⟩:=hqf
    rw[castL_len,List.length_cons]at hqv hqcl'
    subst hqv
    have hq:qg'=qg∨w3.heap.size≤qg':=by
     rcases hqb with e | ⟨kk,e,h⟩
     ·left;simpa[Value.ownBlock] using e
     ·right;have:qg'=kk:=(by simpa[Value.ownBlock] using e);omega
    have hol:=hBP.inn.len
    have P2:=R23.agree hA ⟨by omega,by omega,by omega,by omega⟩
    have c5:=P2.cell (j:=0) rfl
    have l5:=P2.lt
    have co:=P1.intAt (k:=y) (by omega)
    have HPM:Hid ((pre++[(⟨y,hyl,hya⟩:{x_:Nat // x_<s.ex.length∧adjB s x x_=true})]).map (·.1)=pre.map (·.1)++[y]):=Lib.hid (by rw[List.map_append];rfl)
    have HBP:=Lib.hid hBP
    have HA:=Lib.hid hA
    have HBW:=Lib.hid hBW
    have HQW:=Lib.hid hQW
    have lo:=P1.lt
    have hxf:=hBP.inn.few hl x hxn
    by_cases hy0:nth out y<0
    case neg=>
     have HI:=Lib.hid (show KeepsOthers W W∧Agree (fun b=>b<w.heap.size∨b=NB∨b=NB+1) W W∧SeaI s f x QC qg C0 w w3 (pre++[(⟨y,hyl,hya⟩:{x_:Nat // x_<s.ex.length∧adjB s x x_=true})]) W from ⟨.refl W,.refl _ _,⟨out,R,_,P1,PQ,hQW,by rw[HPM.out];exact hBP.skip hy0,hCC,hqb,hA,hBW⟩⟩)
     have d0:decide (nth out y<0)=false:=decide_eq_false hy0
     obtain ⟨oy,hoy⟩:∃oy,oy=nth out y:=⟨_,rfl⟩
     rw[←hoy]at co d0
     clear hy0 hoy hol hBP hA hBW hQW P1 PQ P2 hCC hqb
     gi_wp2
     exact HI.out
    have d0:decide (nth out y<0)=true:=decide_eq_true hy0
    have cx:=P1.intAt (k:=x) (by omega)
    have cq:=PQ.cell (j:=0) rfl
    have lq:=PQ.lt
    have hh:=(show OwnQ W (w.heap.size+2) (.slice (some ⟨qg',qo',none⟩) (R.length+1) qc') ((x:Int)::castL R) from hQW).head
    have fo:=P1.free y
    have HY0:=Lib.hid hy0
    have HYX:Hid (0≤nth out x):=Lib.hid (by have:=hBP.inn.head;omega)
    obtain ⟨oy,hoy⟩:∃oy,oy=nth out y:=⟨_,rfl⟩
    obtain ⟨ox,hox⟩:∃ox,ox=nth out x:=⟨_,rfl⟩
    rw[←hoy]at co d0
    rw[←hox]at cx HYX hxf
    obtain ⟨o1,ho1⟩:∃o1:Int,o1=ox+1:=⟨_,rfl⟩
    have dW:IntKind.i64.wrap (ox+1)=o1:=by rw[IntWalk.i64_left,IntWalk.wrap64_in _ (by omega),ho1]
    have g1:=grownBy_setCell W w.heap.size y (.int .i64 o1)
    have e0:=drewN_below (W.setCell ⟨w.heap.size,y,none⟩ (.int .i64 o1)).heap.size (W.setCell ⟨w.heap.size,y,none⟩ (.int .i64 o1)) 1
    have e00:=drewN_below W.heap.size W 1
    obtain ⟨W2,hW2⟩:∃W2,W2=(W.setCell ⟨w.heap.size,y,none⟩ (.int .i64 o1)).drew:=⟨_,rfl⟩
    have hWs:W2.heap.size=W.heap.size:=by rw[hW2];simp
    have PQ2:Row W2 QC 44 [.slice (some ⟨qg',qo',none⟩) (R.length+1) qc']:=by rw[hW2];exact (PQ.grown g1 (fun e=>by injection e with e;omega)).ext e0
    have P12:Row W2 w.heap.size 3 ((out.set y o1).map (Value.int .i64)):=by rw[hW2];exact (P1.intSet y o1).ext e0
    have HQ2:OwnQ W2 (w.heap.size+2) (.slice (some ⟨qg',qo',none⟩) (R.length+1) qc') (castL (x::R)):=by
     rw[hW2]
     exact (hQW.agree (S:=fun b=>b≠w.heap.size) (.of_grown g1 fun b hb e=>by injection e with e;exact hb e.symm) (fun kk hk=>by have:qg'=kk:=(by simpa[Value.ownBlock] using hk);show kk≠_;omega)).ext e0
    have KO2:KeepsOthers W W2:=by rw[hW2];exact (KeepsOthers.setCell W _ _).trans (keeps_below e0)
    have AG2:Agree (fun b=>b≠w.heap.size∧b≠QC∧b≠qg') W W2:=by rw[hW2];exact (Agree.of_grown g1 fun b hb e=>by injection e with e;exact hb.1 e.symm).trans (.of_ext e0)
    have hbw2:Below w.heap.size w W2:=by rw[hW2];exact ext_trans (hBW.setCell (p:=⟨w.heap.size,y,none⟩) (by dsimp only;omega) _) e0
    have hw3s:=hA.size
    have HFIN:Hid (∀v6 w6,OwnQ w6 (w.heap.size+2) v6 (castL (x::R)++[(y:Int)])→(W2.alloc (.cells #[.int .i64 y] 3)).grownBy w6 (some qg')→(v6.ownBlock=some qg'∨∃kk,v6.ownBlock=some kk∧W2.heap.size≤kk)→
      KeepsOthers W (w6.setCell ⟨QC,0,none⟩ v6)∧Agree (fun b=>b<w.heap.size∨b=NB∨b=NB+1) W (w6.setCell ⟨QC,0,none⟩ v6)∧SeaI s f x QC qg C0 w w3 (pre++[(⟨y,hyl,hya⟩:{x_:Nat // x_<s.ex.length∧adjB s x x_=true})]) (w6.setCell ⟨QC,0,none⟩ v6)):=Lib.hid fun v6 w6 hown hgr hat=>by
     have hga:=World.grownBy_alloc W2 (.cells #[.int .i64 y] 3) none
     have hgs:=grownBy_setCell w6 QC 0 v6
     have hsa:(W2.alloc (.cells #[.int .i64 y] 3)).heap.size=W2.heap.size+1:=by simp
     have R6:Row w6 QC 44 [.slice (some ⟨qg',qo',none⟩) (R.length+1) qc']:=(PQ2.alloc _).grown hgr (fun e=>by injection e with e;exact HQ2.apart PQ2 (by decide) (by simp[Value.ownBlock,e]))
     have AG:Agree (fun b=>b≠w.heap.size∧b≠QC∧b≠qg') W (w6.setCell ⟨QC,0,none⟩ v6):=((AG2.trans (.of_grown hga (by simp))).trans (.of_grown hgr fun b hb e=>by injection e with e;exact hb.2.2 e.symm)).trans (.of_grown hgs fun b hb e=>by injection e with e;exact hb.2.1 e.symm)
     refine ⟨((KO2.trans (.alloc W2 _)).trans (.of_grownBy hgr fun j o hj ho=>?_)).trans (.setCell _ _ _),AG.mono fun b hb=>?_,⟨out.set y o1,R++[y],v6,?_,R6.set 0 v6,?_,?_,?_,?_,hA.trans (AG.mono fun b hb=>?_),?_⟩⟩
     ·obtain ⟨g9,off9,cap9,cur9,he9,_,hR9,_⟩:=HQ2
      have hg9:g9=j:=by
       simp only[Value.slice.injEq,Option.some.injEq,Addr.mk.injEq]at he9
       injection hj with hj
       rw[←hj];exact he9.1.1.symm
      subst hg9
      have:=hR9.alloc (.cells #[.int .i64 y] 3)
      unfold Row at this
      rw[this]at ho
      cases ho
      rfl
     ·rcases hb with hb | hb | hb
      ·exact ⟨by omega,by omega,by omega⟩
      ·exact ⟨by omega,by omega,by omega⟩
      ·exact ⟨by omega,by omega,by omega⟩
     ·exact ((P12.alloc _).grown hgr (fun e=>by injection e with e;omega)).grown hgs (fun e=>by injection e with e;omega)
     ·have hc:castL (x::(R++[y]))=castL (x::R)++[(y:Int)]:=by rw[←List.cons_append,castL_snoc]
      rw[hc]
      exact hown.agree (S:=fun b=>b≠QC) (.of_grown hgs fun b hb e=>by injection e with e;exact hb e.symm) (fun kk hk e=>hown.apart R6 (by decide) (by rw[hk,e]))
     ·rw[HPM.out,←List.cons_append]
      have:=HBP.out.hit hf hyl hya HY0.out
      rw[←hox,←ho1]at this
      exact this
     ·have:=negN_set (l:=out) (j:=y) (x:=o1) (by omega) HY0.out (by have:=HYX.out;omega)
      rw[List.length_append,List.length_singleton];omega
     ·rcases hat with e | ⟨kk,e,hk⟩
      ·rcases hq with e2 | e2
       ·left;rw[e,e2]
       ·right;exact ⟨qg',e,e2⟩
      ·right;exact ⟨kk,e,by omega⟩
     ·exact ⟨by omega,by omega,by omega⟩
     ·exact (((hbw2.alloc hbw2.size _).grown hgr (by rw[hsa];have:=hbw2.size;omega) (fun j hj=>by cases hj;omega))).setCell (p:=⟨QC,0,none⟩) (by dsimp only;omega) _
    have hln:(castL (x::R)).length≤100000:=by rw[castL_len,List.length_cons];omega
    have HLN:=Lib.hid hln
    have HBASE:Hid (w.heap.size+2≤W2.heap.size):=Lib.hid (by rw[hWs];have:=PQ.lt;omega)
    have HQ22:=Lib.hid HQ2
    have HPQ2:=Lib.hid PQ2
    have HS14:Hid ((fun w':World=>w'.cell? ⟨w.heap.size+1,0,none⟩=some (.slice (some ⟨w.heap.size,0,none⟩) s.ex.length s.ex.length)∧w'.cell? ⟨QC,0,none⟩=some (.slice (some ⟨qg',qo',none⟩) (R.length+1) qc')∧w'.cell? ⟨qg',qo',none⟩=some (.int .i64 x)∧w'.cell? ⟨w.heap.size,x,none⟩=some (.int .i64 ox)) W.drew):=Lib.hid ⟨cell_ext c5 e00,cell_ext cq e00,cell_ext hh e00,cell_ext cx e00⟩
    have HW2:=Lib.hid hW2
    have HO1:=Lib.hid ho1
    clear hoy hox ho1 HBP HYX HA HBW HQW hqb hCC hBP hA hBW hQW P1 PQ P2 hy0 HY0 PQ2 P12 HQ2 KO2 AG2 hbw2 e0 e00 g1 hln hol hWs hxf hW2
    gi_wp2
    refine region_EIn (fun w':World=>w'.cell? ⟨w.heap.size+1,0,none⟩=some (.slice (some ⟨w.heap.size,0,none⟩) s.ex.length s.ex.length)∧w'.cell? ⟨QC,0,none⟩=some (.slice (some ⟨qg',qo',none⟩) (R.length+1) qc')∧w'.cell? ⟨qg',qo',none⟩=some (.int .i64 x)∧w'.cell? ⟨w.heap.size,x,none⟩=some (.int .i64 ox)) (fun i=>i==10) (by kernel_rfl) (by kernel_rfl) (by rintro ⟨_,_,h⟩;exact h) ?_ (fun hHeld=>?_)
    ·exact HS14.out
    refine anyE_takeT 0 (v:=?_) rfl (by kernel_rfl) (fun _ _ _ h=>h) (by rfl) ?hy0 hHeld ?rest0
    case hy0=>(intro w hSw;(try dsimp only at hSw);go_simp;try with_reducible rfl)
    try simp only[Act.put,zsa,zsz,zss]
    refine anyE_takeT 1 (v:=?_) rfl (by kernel_rfl) (fun _ _ _ h=>h) (by rfl) ?hy1 hHeld ?rest1
    case hy1=>(intro w hSw;(try dsimp only at hSw);go_simp;try with_reducible rfl)
    try simp only[Act.put,zsa,zsz,zss]
    refine anyE_takeT 2 (v:=?_) rfl (by kernel_rfl) (fun _ _ _ h=>h) (by rfl) ?hy2 hHeld ?rest2
    case hy2=>(intro w hSw;(try dsimp only at hSw);go_simp;try with_reducible rfl)
    try simp only[Act.put,zsa,zsz,zss]
    refine anyE_takeT 3 (v:=?_) rfl (by kernel_rfl) (fun _ _ _ h=>h) (by rfl) ?hy3 hHeld ?rest3
    case hy3=>(intro w hSw;(try dsimp only at hSw);go_simp;try with_reducible rfl)
    try simp only[Act.put,zsa,zsz,zss]
    refine anyE_takeT 4 (v:=?_) rfl (by kernel_rfl) (fun _ _ _ h=>h) (by rfl) ?hy4 hHeld ?rest4
    case hy4=>(intro w hSw;(try dsimp only at hSw);go_simp;try with_reducible rfl)
    try simp only[Act.put,zsa,zsz,zss]
    refine anyE_takeT 5 (v:=?_) rfl (by kernel_rfl) (fun _ _ _ h=>h) (by rfl) ?hy5 hHeld ?rest5
    case hy5=>(intro w hSw;(try dsimp only at hSw);go_simp;try with_reducible rfl)
    try simp only[Act.put,zsa,zsz,zss]
    refine anyE_takeT 6 (v:=?_) rfl (by kernel_rfl) (fun _ _ _ h=>h) (by rfl) ?hy6 hHeld ?rest6
    case hy6=>(intro w hSw;(try dsimp only at hSw);go_simp;try with_reducible rfl)
    try simp only[Act.put,zsa,zsz,zss]
    refine anyE_takeT 7 (v:=?_) rfl (by kernel_rfl) (fun _ _ _ h=>h) (by rfl) ?hy7 hHeld ?rest7
    case hy7=>(intro w hSw;(try dsimp only at hSw);go_simp;try with_reducible rfl)
    try simp only[Act.put,zsa,zsz,zss]
    refine anyE_takeT 8 (v:=?_) rfl (by kernel_rfl) (fun _ _ _ h=>h) (by rfl) ?hy8 hHeld ?rest8
    case hy8=>(intro w hSw;(try dsimp only at hSw);go_simp;try with_reducible rfl)
    try simp only[Act.put,zsa,zsz,zss]
    refine anyE_takeT 9 (v:=?_) rfl (by kernel_rfl) (fun _ _ _ h=>h) (by rfl) ?hy9 hHeld ?rest9
    case hy9=>(intro w hSw;(try dsimp only at hSw);go_simp;try with_reducible rfl)
    try simp only[Act.put,zsa,zsz,zss]
    refine anyE_one 10 rfl (by kernel_rfl) (fun K hK=>?_)
    go_simp
    refine hK.out _ _ (fun h=>by simp at h) (fun hHeld=>?_)
    clear hK K
    try simp only[Act.put,zsa,zsz,zss]
    refine anyE_done (by kernel_rfl) ?_ _
    rw[←HW2.out]
    clear hHeld HS14 dW d0 co cx cq lq hh fo c5 l5 lo HW2
    have cq2:=HPQ2.out.cell (j:=0) rfl
    have lq2:=HPQ2.out.lt
    gi_wp2_with (gi_at_builtin;refine wpListIn_pushQ rfl _ _ rfl (w.heap.size+2) _ _ rfl HQ22.out HLN.out HBASE.out y rfl ?_;intro v6 w6 hown6 hgr6 hat6;have R6:=(HPQ2.out.alloc (.cells #[.int .i64 y] 3)).grown hgr6 (fun e=>HQ22.out.apart HPQ2.out (by decide) e);have c6:=R6.cell (j:=0) rfl;have f6:=R6.free 0;have l6:=R6.lt;have HFX:=Lib.hid (HFIN.out v6 w6 hown6 hgr6 hat6);obtain ⟨q6,o6,cp6,hv6,_,_,_,_⟩:=hown6.form;have hv7:v6=.slice (some ⟨q6,o6,none⟩) (R.length+1+1) cp6:=(by rw[hv6];simp[castL_len]);clear hv6;subst hv7;clear hown6 hgr6 hat6 R6)
    exact HFX.out
   case hstop=>
    rintro D c pre W hD hSp h hK
    exact h.elim
   case hdone=>
    rintro D l W hD hS ⟨⟨out',R',qv',P1,PQ,hQW,hBP,hCC,hqb,hA,hBW⟩⟩ hK
    clear hC0
    have hqf:=hQW.form
    obtain ⟨qg',qo',qc',hqv,hqgb,hqgl',hqcl',_⟩:=hqf
    rw[castL_len,List.length_cons]at hqv hqcl'
    subst hqv
    have hw3s:=hA.size
    have hne:∀b e xs,Row w3 b e xs→∀D,w3.heap[D]? =some (.deferred (some []))→D≠b:=fun b e xs hR D hD e=>by
     unfold Row at hR;rw[e]at hD;rw[hD]at hR;cases hR
    have hneq:∀D,w3.heap[D]? =some (.deferred (some []))→D≠qg:=fun D hD e=>by
     obtain ⟨g9,off9,cap9,cur9,he9,_,hR9,_⟩:=HQ3.out
     simp only[Value.slice.injEq,Option.some.injEq,Addr.mk.injEq]at he9
     rw[←he9.1.1]at hR9
     exact hne _ _ _ hR9 D hD e
    have HMW:=HM3.out.agree hA (fun D hD=>⟨(Array.getElem?_eq_some_iff.1 hD).1,hne _ _ _ R13 D hD,hne _ _ _ RQ3 D hD,hneq D hD⟩)
    have HMC0:=HM3.out.cons (D:=D) HMW hD (by have:=hx3.size;omega) hK
    have P2:=R23.agree hA ⟨by omega,by omega,by omega,by omega⟩
    have cq:=PQ.cell (j:=0) rfl
    have lq:=PQ.lt
    by_cases hq1:qc' - 1=0
    ·have ea:=ext_alloc W (.cells #[.slice (some ⟨qg',qo',none⟩) R'.length 0] 44)
     have HB':=Lib.hid (ext_trans hBW ea)
     have HP1:=Lib.hid (P1.alloc (.cells #[.slice (some ⟨qg',qo',none⟩) R'.length 0] 44))
     have HP2:=Lib.hid (P2.alloc (.cells #[.slice (some ⟨qg',qo',none⟩) R'.length 0] 44))
     have HPQ:=Lib.hid (row_new W [.slice (some ⟨qg',qo',none⟩) R'.length 0] 44)
     have HQP:=Lib.hid ((show OwnQ W (w.heap.size+2) (.slice (some ⟨qg',qo',none⟩) (castL R').length 0) (castL R') from OwnQ.pop0 (x:=(x:Int)) (l:=castL R') hQW (by omega)).ext ea)
     rw[castL_len]at HQP
     have HMC:=Lib.hid (HMC0.ext ea)
     have HBS2:=Lib.hid (hBP.done hS)
     have hCl:R'.length+negN out'≤s.ex.length+1:=by omega
     have hQl:w.heap.size+2≤W.heap.size:=by have:=hBW.size;omega
     have HMS2:Hid (lenC (W.alloc (.cells #[.slice (some ⟨qg',qo',none⟩) R'.length 0] 44)) (.pointer (some ⟨W.heap.size,0,none⟩))+negR (W.alloc (.cells #[.slice (some ⟨qg',qo',none⟩) R'.length 0] 44)) w.heap.size<lenC wr (.pointer (some ⟨QC,0,none⟩))+negR wr w.heap.size):=Lib.hid (by
      refine HMSR.out _ ?_
      rw[lenC_eq (HPQ.out.cell (j:=0) rfl),negR_eq HP1.out]
      show R'.length+negN out'<C0
      omega)
     have hql:R'.length+1≤qc':=hqcl'
     clear hS hA HMW HMC0 hne hneq R13 R23 RQ3 HM3 HQ3 hK P1 PQ P2 hQW hBP hCC hqb hBW ea HMSR HF HP0 hz3
     go_wp2
     refine ⟨?rela,?measurea⟩
     case rela=>
      (repeat apply Exists.intro)
      refine ⟨?hra,?hea⟩
      case hea=>repeat' (first | exact rfl | apply And.intro)
      exact ⟨⟨out',R',_,HB'.out,HP1.out,HP2.out,HPQ.out,hQl,HQP,HBS2,hCl,HMC⟩⟩
     case measurea=>exact HMS2.out
    ·have ea:=ext_alloc W (.cells #[.slice (some ⟨qg',qo'+1,none⟩) R'.length (qc' - 1)] 44)
     have HB':=Lib.hid (ext_trans hBW ea)
     have HP1:=Lib.hid (P1.alloc (.cells #[.slice (some ⟨qg',qo'+1,none⟩) R'.length (qc' - 1)] 44))
     have HP2:=Lib.hid (P2.alloc (.cells #[.slice (some ⟨qg',qo'+1,none⟩) R'.length (qc' - 1)] 44))
     have HPQ:=Lib.hid (row_new W [.slice (some ⟨qg',qo'+1,none⟩) R'.length (qc' - 1)] 44)
     have HQP:=Lib.hid ((show OwnQ W (w.heap.size+2) (.slice (some ⟨qg',qo'+1,none⟩) (castL R').length (qc' - 1)) (castL R') from OwnQ.pop (x:=(x:Int)) (l:=castL R') hQW).ext ea)
     rw[castL_len]at HQP
     have HMC:=Lib.hid (HMC0.ext ea)
     have HBS2:=Lib.hid (hBP.done hS)
     have hCl:R'.length+negN out'≤s.ex.length+1:=by omega
     have hQl:w.heap.size+2≤W.heap.size:=by have:=hBW.size;omega
     have HMS2:Hid (lenC (W.alloc (.cells #[.slice (some ⟨qg',qo'+1,none⟩) R'.length (qc' - 1)] 44)) (.pointer (some ⟨W.heap.size,0,none⟩))+negR (W.alloc (.cells #[.slice (some ⟨qg',qo'+1,none⟩) R'.length (qc' - 1)] 44)) w.heap.size<lenC wr (.pointer (some ⟨QC,0,none⟩))+negR wr w.heap.size):=Lib.hid (by
      refine HMSR.out _ ?_
      rw[lenC_eq (HPQ.out.cell (j:=0) rfl),negR_eq HP1.out]
      show R'.length+negN out'<C0
      omega)
     have hql:R'.length+1≤qc':=hqcl'
     clear hS hA HMW HMC0 hne hneq R13 R23 RQ3 HM3 HQ3 hK P1 PQ P2 hQW hBP hCC hqb hBW ea HMSR HF HP0 hz3
     go_wp2
     refine ⟨?relb,?measureb⟩
     case relb=>
      (repeat apply Exists.intro)
      refine ⟨?hrb,?heb⟩
      case heb=>repeat' (first | exact rfl | apply And.intro)
      exact ⟨⟨out',R',_,HB'.out,HP1.out,HP2.out,HPQ.out,hQl,HQP,HBS2,hCl,HMC⟩⟩
     case measureb=>exact HMS2.out
end Go.Proofs.YtaijafjfafbcfaaGreat
