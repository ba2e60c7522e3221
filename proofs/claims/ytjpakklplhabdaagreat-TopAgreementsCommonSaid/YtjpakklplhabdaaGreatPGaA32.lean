/- Part of the proof that the laws answer true for every input. -/
import Derived.Test.YtjpakklplhabdaaGreatPGaA31
import Derived.Deep.Cut
set_option linter.unusedSimpArgs false
set_option linter.unnecessarySimpa false
set_option linter.unusedVariables false
set_option maxRecDepth 100000
set_option maxHeartbeats 40000000
namespace Go.Proofs.YtjpakklplhabdaaGreat
open Go.RowKit
attribute [local go_sem ↓] Go.wp_at_zero Go.wp_at_succ
def zzRT (N:Nat) (cs:List CaseD) (ws:List (List (List Int))) (c j:Nat):List (List Int)×List ExecD:=runE N cs ((pairsIT ws.length c++(List.range j).map fun j=>(c,j)).map fun x=>(x.1,nthW ws x.2))
theorem zes {N:Nat} {cs:List CaseD} {ws:List (List (List Int))} {c j:Nat}:zzRT N cs ws c (j+1)=((playV N (nthC cs c).inn (nthW ws j) (zzRT N cs ws c j).1 (nthW ws j).length).1,(zzRT N cs ws c j).2++[((c:Int),nthW ws j,(playV N (nthC cs c).inn (nthW ws j) (zzRT N cs ws c j).1 (nthW ws j).length).2)]):=by
 unfold zzRT
 rw[yL,←List.append_assoc,List.map_append (l₂:=[(c,j)]),List.map_cons,List.map_nil,Qz]
 rfl
theorem zei {N:Nat} {cs:List CaseD} {ws:List (List (List Int))} {c:Nat}:zzRT N cs ws c ws.length=zzRT N cs ws (c+1) 0:=by
 unfold zzRT
 rw[yn,List.range_zero,List.map_nil,List.append_nil]
theorem zeT {N:Nat} {cs:List CaseD} {ws:List (List (List Int))}:zzRT N cs ws cs.length 0=runE N cs (pairsW cs.length ws):=by
 unfold zzRT
 rw[List.range_zero,List.map_nil,List.append_nil,←yI]
 rfl
theorem zcf {N:Nat} {cs:List CaseD} {ws:List (List (List Int))}:zzRT N cs ws 0 0=([],[]):=rfl
theorem zeS {N:Nat} {cs:List CaseD} {ws:List (List (List Int))} {c j K:Nat} (hw:∀x∈ws,x.length=K) (hc:c<cs.length) (hj:j≤ws.length):(zzRT N cs ws c j).2.length≤cs.length * ws.length∧(zzRT N cs ws c j).1.length≤cs.length * ws.length * (N * (K+1)):=by
 have hp:=(yK (c:=cs.length) (l:=ws.length) hc hj).length_le
 have hlp:(pairsI cs.length ws.length).length=cs.length * ws.length:=by
  have:=congrArg List.length (yI cs.length ws)
  rw[List.length_map,yz]at this
  exact this
 rw[hlp]at hp
 have h1:=xz N cs ((pairsIT ws.length c++(List.range j).map fun j=>(c,j)).map fun x=>(x.1,nthW ws x.2))
 have h2:=xB N K cs ((pairsIT ws.length c++(List.range j).map fun j=>(c,j)).map fun x=>(x.1,nthW ws x.2)) (fun x hx=>by
  obtain ⟨y,hy,rfl⟩:=List.mem_map.1 hx
  have hy2:y.2<ws.length:=by
   rcases List.mem_append.1 hy with h | h
   ·unfold pairsIT at h
    obtain ⟨i,_,h⟩:=List.mem_flatMap.1 h
    obtain ⟨m,hm,rfl⟩:=List.mem_map.1 h
    exact List.mem_range.1 hm
   ·obtain ⟨m,hm,rfl⟩:=List.mem_map.1 h
    have:=List.mem_range.1 hm
    dsimp only;omega
  exact hw _ (by rw[qt hy2];exact List.getElem_mem hy2))
 rw[List.length_map]at h1 h2
 refine ⟨by unfold zzRT;omega,Nat.le_trans h2 (Nat.mul_le_mul_right _ hp)⟩
theorem YW {S:Nat→Prop} {w:World} {vc vs:Value} {N K:Nat} {ins outs:Int} {cs:List CaseD} {st:Moves} (hc:Sl kCase (fun b=>S b∧b<w.heap.size) w vc cs) (hs:Sl (kSl (kFlat 8)) (fun b=>S b∧b<w.heap.size) w vs st) (hok:ProbOK ⟨N,ins,outs,cs,N,st,K⟩ N) (hnum:(ProbD.num ⟨N,ins,outs,cs,N,st,K⟩)≤60) (hN3:N≤3):
  Calls Tryz.prog 78 #[.agg #[.int .i64 N,.int .i64 ins,.int .i64 outs,vc,.int .i64 N,vs,.int .i64 K]] w (Post w fun w' r=>SysV (fun b=>S b∨w.heap.size≤b) w' r (ProbD.full ⟨N,ins,outs,cs,N,st,K⟩)):=by
 obtain ⟨ca,cc,rfl,_⟩:=hc.form
 obtain ⟨sa,sc,rfl,_⟩:=hs.form
 have h8:=qC hs
 have hsl:=hok.s1
 have hcl:=hok.c1
 have hn1:=hok.n1
 have hkr:=hok.r
 dsimp only at hsl hcl hkr
 have hcnt:cntW st K 0≤100000:=by
  have h1:(ProbD.num ⟨N,ins,outs,cs,N,st,K⟩)=cs.length * cntW st K 0:=rfl
  rw[h1]at hnum
  have h2:=Nat.mul_le_mul_right (cntW st K 0) hcl.1
  omega
 have KF:Hid (∀W,Below w.heap.size w W→Calls Tryz.prog 106 #[.agg #[.int .i64 N,.slice sa st.length sc],.int .i64 0,.int .i64 K] W (Post W fun w' r=>Sl kWord (fun b=>W.heap.size≤b) w' r (wordsD st K 0))):=zhd fun W hW=>Yh K N (hs.ext hW) hok.mv (by omega) 0 (by omega) (by omega) hcnt
 have HC:=zhd hc
 have HS:=zhd hs
 have HOK:=zhd hok
 have HWK:Hid ((∀x∈wordsD st K 0,∀r∈x,RoundOK N r)∧∀x∈wordsD st K 0,x.length=K):=zhd ⟨fun x hx=>hok.words h8 K x hx,qA st K 0⟩
 have HNUM:Hid (cs.length * (wordsD st K 0).length≤60):=zhd (by rw[zS];exact hnum)
 have HFIN:Hid (∀(W:World) (v:Value),SysV (fun b=>S b∨w.heap.size≤b) W v ⟨⟨N,ins,outs,cs,N,st,K⟩,N,(runE N cs (pairsW cs.length (wordsD st K 0))).1,(runE N cs (pairsW cs.length (wordsD st K 0))).2⟩→SysV (fun b=>S b∨w.heap.size≤b) W v (ProbD.full ⟨N,ins,outs,cs,N,st,K⟩)):=zhd fun W v h=>by
  have e:(ProbD.full ⟨N,ins,outs,cs,N,st,K⟩)=⟨⟨N,ins,outs,cs,N,st,K⟩,N,(runE N cs (pairsW cs.length (wordsD st K 0))).1,(runE N cs (pairsW cs.length (wordsD st K 0))).2⟩:=by unfold ProbD.full ProbD.sys ProbD.pairs;simp
  rw[e];exact h
 obtain ⟨ws,hws0⟩:∃ws,ws=wordsD st K 0:=⟨_,rfl⟩
 rw[←hws0]at KF HWK HNUM HFIN
 have hK6:K≤6:=by omega
 clear hws0 hc hs hok hnum hcnt h8 hkr
 have RA0:=(ze w [.int .i64 N,.int .i64 ins,.int .i64 outs,.slice ca cs.length cc,.int .i64 N,.slice sa st.length sc,.int .i64 K] 29).alloc (.cells #[.int .i64 0,.int .i64 0,.int .i64 0,.slice none 0 0,.int .i64 0,.slice none 0 0,.int .i64 0,.int .i64 0,.slice none 0 0,.slice none 0 0] 39)
 have R1:=RA0.alloc (.cells #[.int .i64 N,.int .i64 ins,.int .i64 outs,.slice ca cs.length cc,.int .i64 N,.slice sa st.length sc,.int .i64 K,.int .i64 N,.slice none 0 0,.slice none 0 0] 39)
 have RS2:=(ze (w.alloc (.cells #[.int .i64 N,.int .i64 ins,.int .i64 outs,.slice ca cs.length cc,.int .i64 N,.slice sa st.length sc,.int .i64 K] 29)) [.int .i64 0,.int .i64 0,.int .i64 0,.slice none 0 0,.int .i64 0,.slice none 0 0,.int .i64 0,.int .i64 0,.slice none 0 0,.slice none 0 0] 39).alloc (.cells #[.int .i64 N,.int .i64 ins,.int .i64 outs,.slice ca cs.length cc,.int .i64 N,.slice sa st.length sc,.int .i64 K,.int .i64 N,.slice none 0 0,.slice none 0 0] 39)
 have RS3:=ze ((w.alloc (.cells #[.int .i64 N,.int .i64 ins,.int .i64 outs,.slice ca cs.length cc,.int .i64 N,.slice sa st.length sc,.int .i64 K] 29)).alloc (.cells #[.int .i64 0,.int .i64 0,.int .i64 0,.slice none 0 0,.int .i64 0,.slice none 0 0,.int .i64 0,.int .i64 0,.slice none 0 0,.slice none 0 0] 39)) [.int .i64 N,.int .i64 ins,.int .i64 outs,.slice ca cs.length cc,.int .i64 N,.slice sa st.length sc,.int .i64 K,.int .i64 N,.slice none 0 0,.slice none 0 0] 39
 have exI:=zg (zg (zb w (.cells #[.int .i64 N,.int .i64 ins,.int .i64 outs,.slice ca cs.length cc,.int .i64 N,.slice sa st.length sc,.int .i64 K] 29)) (.cells #[.int .i64 0,.int .i64 0,.int .i64 0,.slice none 0 0,.int .i64 0,.slice none 0 0,.int .i64 0,.int .i64 0,.slice none 0 0,.slice none 0 0] 39)) (.cells #[.int .i64 N,.int .i64 ins,.int .i64 outs,.slice ca cs.length cc,.int .i64 N,.slice sa st.length sc,.int .i64 K,.int .i64 N,.slice none 0 0,.slice none 0 0] 39)
 simp only[World.size_alloc,Nat.add_assoc,Nat.reduceAdd]at RS2 RS3
 have a0:=RA0.zc 0 rfl
 have a1:=RA0.zc 1 rfl
 have a2:=RA0.zc 2 rfl
 have a3:=RA0.zc 3 rfl
 have a4:=RA0.zc 4 rfl
 have a5:=RA0.zc 5 rfl
 have a6:=RA0.zc 6 rfl
 have b4:=R1.zc 4 rfl
 have b5:=R1.zc 5 rfl
 have b6:=R1.zc 6 rfl
 have la0:=RA0.lt
 have lb0:=R1.lt
 go_enter Tryz.func78,Tryz.ntmps78
 go_wp2_with fail
 refine (KF.out _ exI).mono ?_
 rintro _ wA ⟨wv,rfl,hbA,hws⟩
 obtain ⟨wa,wc,rfl,_⟩:=hws.form
 have hwsB:Sl kWord (fun b=>w.heap.size+3≤b∧b<wA.heap.size) wA (.slice wa ws.length wc) ws:=hws.block.mono fun b hb=>⟨by have:=hb.1;simp at this;omega,hb.2⟩
 replace R1:=R1.ext hbA
 replace RS2:=RS2.ext hbA
 replace RS3:=RS3.ext hbA
 have exA:=za exI hbA
 obtain ⟨S3,hS3'⟩:∃S3,S3=w.heap.size+2:=⟨_,rfl⟩
 rw[←hS3']at RS3
 have hlS:=RS3.lt
 have hsA:=exA.size
 have QW:=hwsB.idxW
 obtain ⟨wbf,wkf,hv⟩:=Yi hwsB
 have HWV:=zhd hv
 have HBR0:Hid (BR w wA S3 [.int .i64 N,.int .i64 ins,.int .i64 outs,.slice ca cs.length cc,.int .i64 N,.slice sa st.length sc,.int .i64 K] (.int .i64 N) wA (.slice none 0 0) (.slice none 0 0) (zzRT N cs ws 0 0).1 (zzRT N cs ws 0 0).2):=zhd ⟨exA,.refl _ _,RS3,by rw[zcf];exact .nil _ _ _,by rw[zcf];exact OwnK.nil _ _ _ _ _⟩
 have HPA:Hid (∀W,Agree (fun b=>b<wA.heap.size∧b≠S3) wA W→Row W w.heap.size 29 [.int .i64 N,.int .i64 ins,.int .i64 outs,.slice ca cs.length cc,.int .i64 N,.slice sa st.length sc,.int .i64 K]∧Row W (w.heap.size+1) 39 [.int .i64 0,.int .i64 0,.int .i64 0,.slice none 0 0,.int .i64 0,.slice none 0 0,.int .i64 0,.int .i64 0,.slice none 0 0,.slice none 0 0]∧Sl kCase (fun b=>S b∧b<w.heap.size) W (.slice ca cs.length cc) cs∧Sl (kSl (kFlat 8)) (fun b=>S b∧b<w.heap.size) W (.slice sa st.length sc) st):=zhd fun W hW=>⟨R1.agree hW ⟨R1.lt,by omega⟩,RS2.agree hW ⟨RS2.lt,by omega⟩,(HC.out.ext exA).agree (hW.mono fun b hb=>⟨by omega,by omega⟩),(HS.out.ext exA).agree (hW.mono fun b hb=>⟨by omega,by omega⟩)⟩
 have HADW:=zhd hwsB.ad.1
 have hSlo:w.heap.size≤S3:=by omega
 have HS3:=zhd hS3'
 clear a0 a1 a2 a3 a4 a5 a6 b4 b5 b6 la0 lb0 hbA hws hwsB exI RA0 R1 RS2 RS3 hv KF HC HS exA hsA
 simp only[Nat.add_assoc,Nat.reduceAdd]
 rw[←hS3']
 clear hS3'
 go_wp2
 go_loopw [5,6,7,8,9,10,11,12,13] (fun i _ _ _ _ _ _ _ _ wr=>∃(c:Nat) (vt vx:Value),c≤cs.length∧i=.int .i64 c∧Hid (BR w wA S3 [.int .i64 N,.int .i64 ins,.int .i64 outs,.slice ca cs.length cc,.int .i64 N,.slice sa st.length sc,.int .i64 K] (.int .i64 N) wr vt vx (zzRT N cs ws c 0).1 (zzRT N cs ws c 0).2)) (fun i _ _ _ _ _ _ _ _ _=>cs.length - (intOf i).toNat)
 case atStart=>exact ⟨0,_,_,Nat.zero_le _,rfl,HBR0⟩
 case round=>
  clear HBR0
  obtain ⟨c,vt,vx,hc,rfl,HB⟩:=hrel
  obtain ⟨w1,rfl⟩:∃w1:World,w1=wr:=⟨_,rfl⟩
  have p3:=(HPA.out w1 HB.out.ag).1.zc 3 rfl
  have lp:=(HPA.out w1 HB.out.ag).1.lt
  by_cases hct:c<cs.length
  case neg=>
   obtain rfl:c=cs.length:=by omega
   rw[zeT]at HB
   obtain ⟨tab,htab⟩:∃tab,tab=(runE N cs (pairsW cs.length ws)).1:=⟨_,rfl⟩
   obtain ⟨ex,hex⟩:∃ex,ex=(runE N cs (pairsW cs.length ws)).2:=⟨_,rfl⟩
   rw[←htab,←hex]at HB HFIN
   have hexl:ex.length≤60:=by rw[hex,xz,yz];exact HNUM.out
   obtain ⟨ta,tc,rfl,_⟩:=HB.out.tb.form
   obtain ⟨xa,xc,rfl,_,_⟩:=HB.out.own.form
   have hxl:=HB.out.own.lt
   obtain ⟨hP1,hP2,hPc,hPs⟩:=HPA.out w1 HB.out.ag
   have R3:=HB.out.r3
   have hbe:=HB.out.be
   have hwa:=HB.out.ag.size
   have HSY:Hid (SysV (fun b=>(S b∧b<w.heap.size)∨S3<b) w1 (.agg #[.int .i64 N,.int .i64 ins,.int .i64 outs,.slice ca cs.length cc,.int .i64 N,.slice sa st.length sc,.int .i64 K,.int .i64 N,.slice ta tab.length tc,.slice xa ex.length xc]) ⟨⟨N,ins,outs,cs,N,st,K⟩,N,tab,ex⟩):=zhd ⟨_,_,_,_,rfl,hPc.mono fun b hb=>.inl hb,hPs.mono fun b hb=>.inl hb,HB.out.tb.mono fun b hb=>.inr (by omega),(HB.out.own.slS (by omega) fun q hq=>⟨by have:=(hxl q hq).1;omega,(hxl q hq).2⟩).mono fun b hb=>.inr hb.1⟩
   obtain ⟨c0,c1,c2,c3,c4,c5,c6,c7,c8,c9⟩:=R3.ten
   obtain ⟨d0,d1,d2,d3,d4,d5,d6,d7,d8,d9⟩:=hP2.ten
   have f0:=hP2.free 0
   have f1:=hP2.free 1
   have f2:=hP2.free 2
   have f3:=hP2.free 3
   have f4:=hP2.free 4
   have f5:=hP2.free 5
   have f6:=hP2.free 6
   have f7:=hP2.free 7
   have f8:=hP2.free 8
   have f9:=hP2.free 9
   have l2:=hP2.lt
   have l3:=R3.lt
   have HRZ:=zhd (hP2.sets [(0,.int .i64 N),(1,.int .i64 ins),(2,.int .i64 outs),(3,.slice ca cs.length cc),(4,.int .i64 N),(5,.slice sa st.length sc),(6,.int .i64 K),(7,.int .i64 N),(8,.slice ta tab.length tc),(9,.slice xa ex.length xc)])
   have HBZ:=zhd (zD (show w.heap.size≤w.heap.size+1 by omega) [(0,.int .i64 N),(1,.int .i64 ins),(2,.int .i64 outs),(3,.slice ca cs.length cc),(4,.int .i64 N),(5,.slice sa st.length sc),(6,.int .i64 K),(7,.int .i64 N),(8,.slice ta tab.length tc),(9,.slice xa ex.length xc)] w1 hbe)
   have HAZ:=zhd (zQ (w.heap.size+1) [(0,.int .i64 N),(1,.int .i64 ins),(2,.int .i64 outs),(3,.slice ca cs.length cc),(4,.int .i64 N),(5,.slice sa st.length sc),(6,.int .i64 K),(7,.int .i64 N),(8,.slice ta tab.length tc),(9,.slice xa ex.length xc)] w1)
   clear hP1 hP2 hPc hPs R3 hbe hwa hxl htab hex HB hexl
   go_wp2
   obtain ⟨W7,hW7⟩:∃W7,W7=sets (w.heap.size+1) [(0,.int .i64 N),(1,.int .i64 ins),(2,.int .i64 outs),(3,.slice ca cs.length cc),(4,.int .i64 N),(5,.slice sa st.length sc),(6,.int .i64 K),(7,.int .i64 N),(8,.slice ta tab.length tc),(9,.slice xa ex.length xc)] w1:=⟨_,rfl⟩
   rw[←hW7]at HRZ HBZ HAZ
   have q0:W7.cell? ⟨w.heap.size+1,0,none⟩=some _:=HRZ.out.zc 0 rfl
   have q1:W7.cell? ⟨w.heap.size+1,1,none⟩=some _:=HRZ.out.zc 1 rfl
   have q2:W7.cell? ⟨w.heap.size+1,2,none⟩=some _:=HRZ.out.zc 2 rfl
   have q3:W7.cell? ⟨w.heap.size+1,3,none⟩=some _:=HRZ.out.zc 3 rfl
   have q4:W7.cell? ⟨w.heap.size+1,4,none⟩=some _:=HRZ.out.zc 4 rfl
   have q5:W7.cell? ⟨w.heap.size+1,5,none⟩=some _:=HRZ.out.zc 5 rfl
   have q6:W7.cell? ⟨w.heap.size+1,6,none⟩=some _:=HRZ.out.zc 6 rfl
   have q7:W7.cell? ⟨w.heap.size+1,7,none⟩=some _:=HRZ.out.zc 7 rfl
   have q8:W7.cell? ⟨w.heap.size+1,8,none⟩=some _:=HRZ.out.zc 8 rfl
   have q9:W7.cell? ⟨w.heap.size+1,9,none⟩=some _:=HRZ.out.zc 9 rfl
   unfold sets at hW7
   simp only[List.foldl_cons,List.foldl_nil]at hW7
   rw[←hW7]
   clear hW7
   refine bodyPost_ret (v:=.agg #[.int .i64 N,.int .i64 ins,.int .i64 outs,.slice ca cs.length cc,.int .i64 N,.slice sa st.length sc,.int .i64 K,.int .i64 N,.slice ta tab.length tc,.slice xa ex.length xc]) (by simp[results,Tryz.results78,go_sem,q0,q1,q2,q3,q4,q5,q6,q7,q8,q9]) rfl ?_
   exact .mk HBZ.out (HFIN.out _ _ ((HSY.out.agree (HAZ.out.mono fun b hb=>by have:=HS3.out;omega)).mono fun b hb=>by rcases hb with h | h;exact .inl h.1;exact .inr (by omega)))
  go_wp2
  go_loopw [6,7,8,9,10,11,12,13] (fun i _ _ _ _ _ _ _ wr=>∃(j:Nat) (vt vx:Value),j≤ws.length∧i=.int .i64 j∧Hid (BR w wA S3 [.int .i64 N,.int .i64 ins,.int .i64 outs,.slice ca cs.length cc,.int .i64 N,.slice sa st.length sc,.int .i64 K] (.int .i64 N) wr vt vx (zzRT N cs ws c j).1 (zzRT N cs ws c j).2)) (fun i _ _ _ _ _ _ _ _=>ws.length - (intOf i).toNat)
  case atStart=>exact ⟨0,vt,vx,Nat.zero_le _,rfl,HB⟩
  case round=>
   clear HB p3 lp vt vx
   obtain ⟨j,vt,vx,hj,rfl,HB⟩:=hrel
   obtain ⟨w2,rfl⟩:∃w2:World,w2=wr:=⟨_,rfl⟩
   by_cases hjt:j<ws.length
   case neg=>
    obtain rfl:j=ws.length:=by omega
    have HB2:Hid (BR w wA S3 [.int .i64 N,.int .i64 ins,.int .i64 outs,.slice ca cs.length cc,.int .i64 N,.slice sa st.length sc,.int .i64 K] (.int .i64 N) w2 vt vx (zzRT N cs ws (c+1) 0).1 (zzRT N cs ws (c+1) 0).2):=zhd (by rw[←zei];exact HB.out)
    clear HB
    go_wp2
    go_roundw
    case rel=>exact ⟨c+1,vt,vx,by omega,by go_num,HB2⟩
    case measure=>simp[intOf];omega
   obtain ⟨tab,htab⟩:∃tab,tab=(zzRT N cs ws c j).1:=⟨_,rfl⟩
   obtain ⟨ex,hex⟩:∃ex,ex=(zzRT N cs ws c j).2:=⟨_,rfl⟩
   have hmulK:N * (K+1)≤3 * 7:=Nat.mul_le_mul hN3 (by omega)
   have hlens:=zeS (N:=N) (cs:=cs) (c:=c) (j:=j) HWK.out.2 hct (by omega)
   have hmul2:cs.length * ws.length * (N * (K+1))≤60 * (3 * 7):=Nat.mul_le_mul HNUM.out hmulK
   rw[←htab,←hex]at hlens
   obtain ⟨word,hword⟩:∃word,word=nthW ws j:=⟨_,rfl⟩
   obtain ⟨wb,hwb⟩:∃wb,wb=wbf j:=⟨_,rfl⟩
   obtain ⟨wk,hwk⟩:∃wk,wk=wkf j:=⟨_,rfl⟩
   obtain ⟨inn,hinn⟩:∃inn,inn=(nthC cs c).inn:=⟨_,rfl⟩
   have hKw:word.length=K:=by rw[hword];exact HWK.out.2 _ (by rw[qt hjt];exact List.getElem_mem hjt)
   have hRok:∀r∈word,RoundOK N r:=by rw[hword];exact HWK.out.1 _ (by rw[qt hjt];exact List.getElem_mem hjt)
   have hil:inn.length=N∧∀x∈inn,0≤x∧x<8:=by rw[hinn];exact HOK.out.inn c hct
   have HNX:Hid (zzRT N cs ws c (j+1)=((plL N inn word tab (K+1)).1,ex++[((c:Int),word,(plL N inn word tab (K+1)).2)])):=zhd (by rw[zes,Zf,←hword,←hinn,←htab,←hex,hKw])
   rw[←htab,←hex]at HB
   obtain ⟨ta,tc,rfl,_⟩:=HB.out.tb.form
   obtain ⟨xa,xc,rfl,_,_⟩:=HB.out.own.form
   have HVJ:Hid (∀W,Agree (fun b=>b<wA.heap.size∧b≠S3) wA W→W.cell? (adr wa j)=some (.slice wb word.length wk)∧Sl (kFlat 7) (fun b=>w.heap.size+3≤b∧b<wA.heap.size) W (.slice wb word.length wk) word):=zhd fun W hW=>by rw[hwb,hwk,hword];exact HWV.out j hjt W (hW.mono fun b hb=>⟨hb.2,by have:=HS3.out;omega⟩)
   have z0:=(HVJ.out w2 HB.out.ag).1
   have qw:=QW.out j hjt
   have hbw:=zI (HADW.out.agree (HB.out.ag.mono fun b hb=>⟨hb.2,by have:=HS3.out;omega⟩)) (show 0<ws.length by omega) j
   obtain ⟨hks,hbk⟩:=BR.enter hSlo hlS rfl HB.out (.int .i64 c) (.slice wb word.length wk)
   obtain ⟨T7,hT7⟩:∃T7,T7=w2.heap.size:=⟨_,rfl⟩
   obtain ⟨wB,hwB⟩:∃wB,wB=w2.alloc (.cells #[.int .i64 c,.slice wb word.length wk,.slice none 0 0] 49):=⟨_,rfl⟩
   have hBs:wB.heap.size=T7+1:=by rw[hwB,hT7];simp
   have hexl:ex.length≤60:=by have:=HNUM.out;omega
   have htl:tab.length≤1260:=by omega
   have hws60:ws.length≤60:=by have h1:=HNUM.out;have h2:=Nat.mul_le_mul_right ws.length hcl.1;omega
   have hTA:wA.heap.size≤T7:=by rw[hT7];exact HB.out.ag.size
   have hAB:Agree (fun b=>b<wA.heap.size∧b≠S3) wA wB:=by rw[hwB];exact HB.out.ag.alloc _
   rw[←hwB,←hT7]at hks hbk
   have HKS:=zhd hks
   have HAB:=zhd hAB
   have HBK0:Hid (BK w wB S3 T7 (fun b=>wA.heap.size≤b∧b<T7∧(Value.slice xa ex.length xc).ownBlock≠some b) [.int .i64 N,.int .i64 ins,.int .i64 outs,.slice ca cs.length cc,.int .i64 N,.slice sa st.length sc,.int .i64 K] (.int .i64 N) (.slice xa ex.length xc) (.int .i64 c) (.slice wb word.length wk) wB (.slice ta tab.length tc) (.slice none 0 0) (plL N inn word tab 0).1 (plL N inn word tab 0).2):=zhd hbk
   have HRD:Hid (∀W vt vv,BK w wB S3 T7 (fun b=>wA.heap.size≤b∧b<T7∧(Value.slice xa ex.length xc).ownBlock≠some b) [.int .i64 N,.int .i64 ins,.int .i64 outs,.slice ca cs.length cc,.int .i64 N,.slice sa st.length sc,.int .i64 K] (.int .i64 N) (.slice xa ex.length xc) (.int .i64 c) (.slice wb word.length wk) W vt vv (plL N inn word tab (K+1)).1 (plL N inn word tab (K+1)).2→_):=zhd fun W vt vv hk=>BR.done hSlo hlS rfl HB.out hwB (by rw[←hT7];exact hk) (by rw[XV];omega) ((HVJ.out w2 HB.out.ag).2.mono fun b hb=>⟨by have:=HS3.out;omega,hb.2⟩)
   have HIN:Hid (∀W,Agree (fun b=>b<wA.heap.size∧b≠S3) wA W→∃ia ic,W.cell? (adr ca (c * 3))=some (.slice ia inn.length ic)∧(∀q,q<inn.length→W.cell? (adr ia q)=some (.int .i64 (nth inn q)))∧(∀q,q<inn.length→∀W',(Instr.indexAt 30 (.slice ia inn.length ic) (.int .i64 q)).run Tryz.prog W'=.ok (.pointer (some (adr ia q))) W')∧(adr ca (c * 3)).block<W.heap.size):=zhd fun W hW=>by
    have hcw:=(HPA.out W hW).2.2.1
    obtain ⟨v1,v2,v3,x1,_,_,i1,_,_⟩:=hcw.case hct
    rw[←hinn]at i1
    obtain ⟨ia,ic,rfl,iad,_⟩:=i1.form
    obtain ⟨i0,hi,_,hz1,_⟩:=info_parts zC
    refine ⟨ia,ic,x1,fun q hq=>?_,zz Tryz.underlying30 hi hz1 iad,zI hcw.ad.1 (by omega) _⟩
    have:=zY i1 (.refl _ _) q hq
    rw[this,List.getD_eq_getElem?_getD,List.getElem?_map,get?_nth hq];rfl
   have QC:Hid (∀W':World,(Instr.indexAt 22 (.slice ca cs.length cc) (.int .i64 c)).run Tryz.prog W'=.ok (.pointer (some (adr ca (c * 3)))) W'):=zhd fun W'=>by
    have hic:=congrArg (Option.map (·.2.1)) yw
    cases h:Tryz.prog.info? 62 with
    | none=>rw[h]at hic;cases hic
    | some t=>
     rw[h]at hic
     exact zJ Tryz.underlying22 h (by simpa using hic) (HPA.out w2 HB.out.ag).2.2.1.ad.1 c hct W'
   have HKW:=zhd hKw
   have HIL:=zhd hil
   have HBS:=zhd hBs
   have hBs1:T7<wB.heap.size:=by omega
   clear htab hex hword hwb hwk hinn hks hbk hAB HB hKw hil hBs hlens hmul2 hmulK
   go_wp2
   rw[←hwB,←hT7]
   clear hwB hT7 z0 hbw
   go_loopw [8,9,10,11,12,13] (fun i _ _ _ _ _ wr=>∃(k:Nat) (vt vv:Value),k≤K+1∧i=.int .i64 k∧Hid (BK w wB S3 T7 (fun b=>wA.heap.size≤b∧b<T7∧(Value.slice xa ex.length xc).ownBlock≠some b) [.int .i64 N,.int .i64 ins,.int .i64 outs,.slice ca cs.length cc,.int .i64 N,.slice sa st.length sc,.int .i64 K] (.int .i64 N) (.slice xa ex.length xc) (.int .i64 c) (.slice wb word.length wk) wr vt vv (plL N inn word tab k).1 (plL N inn word tab k).2)) (fun i _ _ _ _ _ _=>K+1 - (intOf i).toNat)
   case atStart=>exact ⟨0,_,_,Nat.zero_le _,rfl,HBK0⟩
   case round=>
    clear HBK0
    obtain ⟨k,vt,vv,hk,rfl,HK⟩:=hrel
    obtain ⟨wC,rfl⟩:∃wC:World,wC=wr:=⟨_,rfl⟩
    have HAC:Hid (Agree (fun b=>b<wA.heap.size∧b≠S3) wA wC):=zhd (HAB.out.trans (HK.out.ag.mono fun b hb=>⟨by omega,hb.2,by omega⟩))
    have p6:=(HPA.out wC HAC.out).1.zc 6 rfl
    have lp:=(HPA.out wC HAC.out).1.lt
    obtain ⟨va,vc,rfl,_,_⟩:=HK.out.vs.form
    by_cases hkK:k≤K
    case neg=>
     obtain rfl:k=K+1:=by omega
     obtain ⟨ro,rd,rs,rf⟩:=HRD.out wC vt _ HK.out
     have RO:=zhd ro
     have RD:=zhd rd
     have RF:=zhd rf
     have c9:=HK.out.r3.zc 9 rfl
     have l9:=HK.out.r3.lt
     have r7:=HK.out.r7
     have d0:=r7.zc 0 rfl
     have d1:=r7.zc 1 rfl
     have d2:=r7.zc 2 rfl
     have l7:=r7.lt
     have hby:(ex.length+1) * 56≤140737488355328:=by omega
     have hbn:ex.length<9223372036854775807:=by omega
     clear r7 ro rd rf
     go_wp2_with (at_builtin;refine yF (K:=kExec) (w:=wC) (S:=fun b=>S3<b∧b<wC.heap.size) (base:=wA.heap.size) (v:=.slice xa ex.length xc) (l:=ex) rfl (.tmp 110) (.tmp 112) 37 rfl 49 _ 56 Tryz.underlying37 Xp rfl (by decide) rfl RO.out (cs:=[.int .i64 c,.slice wb word.length wk,.slice va (plL N inn word tab (K+1)).2.length vc]) rfl RD.out hby hbn rs ?_;intro g7 c7 w7 ho hb7 hag hg7;obtain ⟨e7,e8⟩:=RF.out g7 c7 w7 ho hb7 hag hg7;have e8:=zhd e8;clear ho hb7 hag hg7 RO RD RF hby hbn c9 l9 d0 d1 d2 l7;have x9:=e7.zc 9 rfl;have y9:=e7.free 9;have z9:=e7.lt;clear e7)
     have HRN:Hid (∀W,W=w7.setCell ⟨S3,9,none⟩ (.slice (some ⟨g7,0,none⟩) (ex.length+1) c7)→∃vx,BR w wA S3 [.int .i64 N,.int .i64 ins,.int .i64 outs,.slice ca cs.length cc,.int .i64 N,.slice sa st.length sc,.int .i64 K] (.int .i64 N) W vt vx (zzRT N cs ws c (j+1)).1 (zzRT N cs ws c (j+1)).2):=zhd fun W hW=>by
      subst hW
      refine ⟨.slice (some ⟨g7,0,none⟩) (ex.length+1) c7,?_⟩
      rw[HNX.out]
      exact e8.out
     clear e8 HK HNX HRD
     go_wp2
     go_roundw
     case rel=>
      obtain ⟨vx,hbr⟩:=HRN.out _ rfl
      exact ⟨j+1,vt,vx,by omega,by go_num,zhd hbr⟩
     case measure=>simp[intOf];omega
    obtain ⟨tk,htk⟩:∃tk,tk=(plL N inn word tab k).1:=⟨_,rfl⟩
    obtain ⟨rows,hrows⟩:∃rows,rows=(plL N inn word tab k).2:=⟨_,rfl⟩
    have htkl:=zdt N inn word tab k
    have hrl0:=XV N inn word tab k
    have hrb:=zb9 N inn word tab k
    have hNk:N * k≤3 * 7:=Nat.mul_le_mul hN3 (by omega)
    have HPL:Hid (plL N inn word tab (k+1)=((layV (mkV inn word N k rows) tk N).1,rows++[(layV (mkV inn word N k rows) tk N).2])):=zhd (by rw[htk,hrows];rfl)
    rw[←htk]at HK htkl
    rw[←hrows]at HK hrl0 hrb
    have HRL:=zhd hrl0
    have HRB:=zhd hrb
    obtain ⟨hqs,hq0⟩:=BK.enter HKS.out HK.out
    have HSQ:Hid (BQs w wC S3 (fun b=>(wA.heap.size≤b∧b<T7∧(Value.slice xa ex.length xc).ownBlock≠some b)∨(wB.heap.size≤b∧b<wC.heap.size∧(Value.slice va rows.length vc).ownBlock≠some b)) [.int .i64 N,.int .i64 ins,.int .i64 outs,.slice ca cs.length cc,.int .i64 N,.slice sa st.length sc,.int .i64 K]):=zhd hqs
    have HQ0:Hid (BQ w wC S3 (fun b=>(wA.heap.size≤b∧b<T7∧(Value.slice xa ex.length xc).ownBlock≠some b)∨(wB.heap.size≤b∧b<wC.heap.size∧(Value.slice va rows.length vc).ownBlock≠some b)) [.int .i64 N,.int .i64 ins,.int .i64 outs,.slice ca cs.length cc,.int .i64 N,.slice sa st.length sc,.int .i64 K] (.int .i64 N) (.slice xa ex.length xc) wC vt (.slice none 0 0) (layV (mkV inn word N k rows) tk 0).1 (layV (mkV inn word N k rows) tk 0).2):=zhd hq0
    clear htk hrows hqs hq0 hrl0 hrb
    go_wp2
    go_loopw [9,10,11,12,13] (fun lv i _ _ _ wr=>∃(q:Nat) (vt:Value) (la:Option Addr) (lc:Nat),q≤N∧i=.int .i64 q∧lv=.slice la q lc∧Hid (BQ w wC S3 (fun b=>(wA.heap.size≤b∧b<T7∧(Value.slice xa ex.length xc).ownBlock≠some b)∨(wB.heap.size≤b∧b<wC.heap.size∧(Value.slice va rows.length vc).ownBlock≠some b)) [.int .i64 N,.int .i64 ins,.int .i64 outs,.slice ca cs.length cc,.int .i64 N,.slice sa st.length sc,.int .i64 K] (.int .i64 N) (.slice xa ex.length xc) wr vt (.slice la q lc) (layV (mkV inn word N k rows) tk q).1 (layV (mkV inn word N k rows) tk q).2)) (fun _ i _ _ _ _=>N - (intOf i).toNat)
    case atStart=>exact ⟨0,_,_,_,Nat.zero_le _,rfl,rfl,HQ0⟩
    case round=>
     clear HQ0 p6 lp
     obtain ⟨q,vt,la,lc,hq,rfl,rfl,HQ⟩:=hrel
     have HAR:Hid (Agree (fun b=>b<wA.heap.size∧b≠S3) wA wr):=zhd (HAC.out.trans (HQ.out.ag.mono fun b hb=>⟨by have:=HAC.out.size;omega,hb.2⟩))
     have p0:=(HPA.out wr HAR.out).1.zc 0 rfl
     have p3:=(HPA.out wr HAR.out).1.zc 3 rfl
     have lp:=(HPA.out wr HAR.out).1.lt
     by_cases hqN:q<N
     case neg=>
      obtain rfl:q=N:=by omega
      have hrl:=HRL.out
      have hnw:∀x∈(layV (mkV inn word q k rows) tk q).2,WF x:=fun x hx=>by
       have h1:=yx (mkV inn word q k rows) (Nat.le_refl tk.length) q x hx
       exact WF.small (by omega)
      have hnl:=zT (mkV inn word q k rows) tk q
      obtain ⟨r7,ro,rd,rs,rf⟩:=BK.done HKS.out HK.out HQ.out hnw
      have c7:=r7.zc 2 rfl
      have l7:=r7.lt
      have RO:=zhd ro
      have RD:=zhd rd
      have RF:=zhd rf
      have hby:(rows.length+1) * 24≤140737488355328:=by omega
      have hbn:rows.length<9223372036854775807:=by omega
      clear hnw hnl r7 ro rd rf hrl
      go_wp2_with (at_builtin;refine yF (K:=kInts) (w:=wr) (S:=fun b=>wB.heap.size≤b∧b<wr.heap.size) (base:=wB.heap.size) (v:=.slice va rows.length vc) (l:=rows) rfl (.tmp 104) (.tmp 106) 47 rfl 30 _ 24 Tryz.underlying47 zF rfl (by decide) rfl RO.out (cs:=[.slice la q lc]) rfl RD.out hby hbn rs ?_;intro g7 c7' w7 ho hb7 hag hg7;obtain ⟨e7,e8⟩:=RF.out g7 c7' w7 ho hb7 hag hg7;have e8:=zhd e8;clear ho hb7 hag hg7 RO RD RF hby hbn c7 l7;have x7:=e7.zc 2 rfl;have y7:=e7.free 2;have z7:=e7.lt;clear e7)
      have HKN:Hid (∀W,W=w7.setCell ⟨T7,2,none⟩ (.slice (some ⟨g7,0,none⟩) (rows.length+1) c7')→∃vv,BK w wB S3 T7 (fun b=>wA.heap.size≤b∧b<T7∧(Value.slice xa ex.length xc).ownBlock≠some b) [.int .i64 q,.int .i64 ins,.int .i64 outs,.slice ca cs.length cc,.int .i64 q,.slice sa st.length sc,.int .i64 K] (.int .i64 q) (.slice xa ex.length xc) (.int .i64 c) (.slice wb word.length wk) W vt vv (plL q inn word tab (k+1)).1 (plL q inn word tab (k+1)).2):=zhd fun W hW=>by
       subst hW
       refine ⟨.slice (some ⟨g7,0,none⟩) (rows.length+1) c7',?_⟩
       rw[HPL.out]
       exact e8.out
      clear e8 HQ HPL HK
      go_wp2
      go_roundw
      case rel=>
       obtain ⟨vv,hbk⟩:=HKN.out _ rfl
       exact ⟨k+1,vt,vv,by omega,by go_num,zhd hbk⟩
      case measure=>simp[intOf];omega
     obtain ⟨ta,tc,rfl,_⟩:=HQ.out.tb.form
     have htql:=yC (mkV inn word N k rows) tk q
     have HLQ0:=zT (mkV inn word N k rows) tk q
     obtain ⟨tq,htq⟩:∃tq,tq=(layV (mkV inn word N k rows) tk q).1:=⟨_,rfl⟩
     obtain ⟨nums,hnums⟩:∃nums,nums=(layV (mkV inn word N k rows) tk q).2:=⟨_,rfl⟩
     have HSTEP0:∀v,v=(mkV inn word N k rows) q→∀W vt vl,BQ w wC S3 (fun b=>(wA.heap.size≤b∧b<T7∧(Value.slice xa ex.length xc).ownBlock≠some b)∨(wB.heap.size≤b∧b<wC.heap.size∧(Value.slice va rows.length vc).ownBlock≠some b)) [.int .i64 N,.int .i64 ins,.int .i64 outs,.slice ca cs.length cc,.int .i64 N,.slice sa st.length sc,.int .i64 K] (.int .i64 N) (.slice xa ex.length xc) W vt vl (addV tq v) (nums++[(idxV tq v:Int)])→BQ w wC S3 (fun b=>(wA.heap.size≤b∧b<T7∧(Value.slice xa ex.length xc).ownBlock≠some b)∨(wB.heap.size≤b∧b<wC.heap.size∧(Value.slice va rows.length vc).ownBlock≠some b)) [.int .i64 N,.int .i64 ins,.int .i64 outs,.slice ca cs.length cc,.int .i64 N,.slice sa st.length sc,.int .i64 K] (.int .i64 N) (.slice xa ex.length xc) W vt vl (layV (mkV inn word N k rows) tk (q+1)).1 (layV (mkV inn word N k rows) tk (q+1)).2:=fun v hv W vt vl h=>by
      subst hv
      rw[htq,hnums]at h
      exact h
     rw[←htq]at htql
     rw[←htq,←hnums]at HQ
     rw[←hnums]at HLQ0
     have HLQ:=zhd HLQ0
     have HTQ:Hid (tq.length≤100000):=zhd (by omega)
     have HST0:=zhd HSTEP0
     obtain ⟨ia,ic,i1,i2,i3,i4⟩:=HIN.out wr HAR.out
     have hqi:q<inn.length:=by have:=HIL.out.1;omega
     have qi:=i3 q hqi
     have ci:=i2 q hqi
     have bi:=World.block_lt_of_cell? _ _ ci
     have qc:=QC.out
     obtain ⟨x,hx⟩:∃x,x=nth inn q:=⟨_,rfl⟩
     have hxw:WF x:=by rw[hx];exact WF.small (by have:=HIL.out.2 _ (Zv hqi);omega)
     rw[←hx]at ci
     obtain ⟨u,hu⟩:∃u,u=firstV q x:=⟨_,rfl⟩
     have KF1:Hid (∀W,Calls Tryz.prog 107 #[.int .i64 q,.int .i64 x] W (Post W fun _ r=>r=.agg #[.int .i64 (nth u 0),.int .i64 (nth u 1),.int .i64 (nth u 2),.int .i64 (nth u 3),.int .i64 (nth u 4),.int .i64 (nth u 5),.int .i64 (nth u 6),.int .i64 (nth u 7)])):=zhd fun W=>by rw[hu];exact Xl W q x
     have HUO:Hid (ViewOK u):=zhd (by rw[hu];exact XC hxw (by omega))
     have HUV:Hid (u=firstV q (nth inn q)):=zhd (by rw[hu,hx])
     clear HSTEP0 HLQ0 htq hnums hu hx htql i2 i3
     go_wp2_with fail
     refine (KF1.out _).mono ?_
     rintro _ w4 ⟨_,rfl,hb4,rfl⟩
     have RU:=ze w4 [.int .i64 (nth u 0),.int .i64 (nth u 1),.int .i64 (nth u 2),.int .i64 (nth u 3),.int .i64 (nth u 4),.int .i64 (nth u 5),.int .i64 (nth u 6),.int .i64 (nth u 7)] 134
     have exy:=zg hb4 (.cells #[.int .i64 (nth u 0),.int .i64 (nth u 1),.int .i64 (nth u 2),.int .i64 (nth u 3),.int .i64 (nth u 4),.int .i64 (nth u 5),.int .i64 (nth u 6),.int .i64 (nth u 7)] 134)
     go_upto_region 18 with fail
     obtain ⟨V11,hV11⟩:∃V11,V11=w4.heap.size:=⟨_,rfl⟩
     obtain ⟨wy,hwy⟩:∃wy,wy=w4.alloc (.cells #[.int .i64 (nth u 0),.int .i64 (nth u 1),.int .i64 (nth u 2),.int .i64 (nth u 3),.int .i64 (nth u 4),.int .i64 (nth u 5),.int .i64 (nth u 6),.int .i64 (nth u 7)] 134):=⟨_,rfl⟩
     rw[←hwy,←hV11]at RU
     rw[←hwy]at exy
     rw[←hwy,←hV11]
     have hV4:wr.heap.size≤V11:=by rw[hV11];exact hb4.size
     clear hwy hV11 hb4 KF1 qi ci bi qc i1 i4 hqi hxw
     rcases Nat.eq_zero_or_pos k with hk0 | hk0
     ·have hk1:¬0<k:=by omega
      have HK0:=zhd hk0
      clear hk0
      obtain ⟨v,hv⟩:∃v,v=u:=⟨_,rfl⟩
      obtain ⟨wx,hwx⟩:∃wx,wx=wy:=⟨_,rfl⟩
      rw[←hv,←hwx]at RU
      rw[←hv]at HUO
      rw[←hwx]at exy ⊢
      have RV:=RU
      have ex2:=exy
      have HVO:=HUO
      have HSTEP:=zhd (HST0.out v (by rw[hv,HUV.out];unfold mkV;rw[if_pos HK0.out]))
      clear hv hwx RU exy HUO HUV HST0 HPL
      have hS3x:=HQ.out.r3.ext ex2
      have s7:=hS3x.zc 7 rfl
      have s8:=hS3x.zc 8 rfl
      have v0:=RV.zc 0 rfl
      have v1:=RV.zc 1 rfl
      have v2:=RV.zc 2 rfl
      have v3:=RV.zc 3 rfl
      have v4:=RV.zc 4 rfl
      have v5:=RV.zc 5 rfl
      have v6:=RV.zc 6 rfl
      have v7:=RV.zc 7 rfl
      have lS:=hS3x.lt
      have lV:=RV.lt
      have hwx:=ex2.size
      have KP:Hid (∀W,Below wx.heap.size wx W→Calls Tryz.prog 109 #[.agg #[.int .i64 N,.slice ta tq.length tc],.agg #[.int .i64 (nth v 0),.int .i64 (nth v 1),.int .i64 (nth v 2),.int .i64 (nth v 3),.int .i64 (nth v 4),.int .i64 (nth v 5),.int .i64 (nth v 6),.int .i64 (nth v 7)]] W (Post W (PutR N (fun b=>((fun b=>(wA.heap.size≤b∧b<T7∧(Value.slice xa ex.length xc).ownBlock≠some b)∨(wB.heap.size≤b∧b<wC.heap.size∧(Value.slice va rows.length vc).ownBlock≠some b))) b∨(wC.heap.size≤b∧b<wr.heap.size∧(Value.slice la q lc).ownBlock≠some b)) W tq v))):=zhd fun W hW=>Yu N (HQ.out.tb.ext (za ex2 hW)) HVO.out HTQ.out
      clear RV
      go_wp2_with fail
      refine (KP.out _ (.refl _ _)).mono ?_
      rintro _ w3 ⟨_,rfl,hb3,vt',rfl,hvt⟩
      obtain ⟨ta2,tc2,rfl,_⟩:=hvt.form
      have ex3:=za ex2 hb3
      have zzRT:=ze w3 [.int .i64 N,.slice ta2 (addV tq v).length tc2] 36
      have hS3z:=(hS3x.ext hb3).alloc (.cells #[.int .i64 N,.slice ta2 (addV tq v).length tc2] 36)
      have ex4:=zg ex3 (.cells #[.int .i64 N,.slice ta2 (addV tq v).length tc2] 36)
      have hvt:=hvt.ext (zb w3 (.cells #[.int .i64 N,.slice ta2 (addV tq v).length tc2] 36))
      clear s7 s8 v0 v1 v2 v3 v4 v5 v6 v7 lS lV KP hS3x hb3 ex3
      go_upto_region 21 with fail
      obtain ⟨wz,hwz⟩:∃wz,wz=w3.alloc (.cells #[.int .i64 N,.slice ta2 (addV tq v).length tc2] 36):=⟨_,rfl⟩
      obtain ⟨T12,hT12⟩:∃T12,T12=w3.heap.size:=⟨_,rfl⟩
      rw[←hwz]at zzRT hS3z ex4 hvt
      rw[←hT12]at zzRT
      rw[←hwz,←hT12]
      clear hwz hT12
      have u7:=hS3z.zc 7 rfl
      have u8:=hS3z.zc 8 rfl
      have g7:=hS3z.free 7
      have g8:=hS3z.free 8
      have lz:=hS3z.lt
      have t0:=zzRT.zc 0 rfl
      have t1:=zzRT.zc 1 rfl
      have lt:=zzRT.lt
      have QN:=zhd (BQ.next HSQ.out HQ.out ex4 hwx hvt)
      have hb0:wC.heap.size≤((wz.setCell ⟨S3,7,none⟩ (.int .i64 N)).setCell ⟨S3,8,none⟩ (.slice ta2 (addV tq v).length tc2)).heap.size:=QN.out.ag.size
      have hlq:=HLQ.out
      clear hvt hwx ex4
      have HOW:Hid (((wz.setCell ⟨S3,7,none⟩ (.int .i64 N)).setCell ⟨S3,8,none⟩ (.slice ta2 (addV tq v).length tc2)).ownsRow wC.heap.size 3 1 (.slice la q lc) q (nums.map (Value.int .i64))):=zhd (by have:=QN.out.l;unfold Cnts at this;rw[hlq]at this;exact this)
      go_upto_region 22 with fail
      obtain ⟨wp,hwp⟩:∃wp,wp=(wz.setCell ⟨S3,7,none⟩ (.int .i64 N)).setCell ⟨S3,8,none⟩ (.slice ta2 (addV tq v).length tc2):=⟨_,rfl⟩
      rw[←hwp]at QN hb0 HOW ⊢
      clear hwp u7 u8 g7 g8 lz hS3z zzRT t0 t1 lt
      go_wp2_with (at_builtin;refine yc rfl (.tmp 99) (.tmp 101) 30 rfl 3 _ 8 Tryz.underlying30 zC rfl wC.heap.size _ q (nums.map (Value.int .i64)) rfl HOW.out (.int .i64 (idxV tq v:Nat)) rfl rfl (by omega) (by omega) hb0 ?_;intro g' c' w5 ho hb5 hag hg')
      have HFQ:=zhd (HSTEP.out _ _ _ (by have:=BQ.push HSQ.out QN.out (by rw[hlq];exact ho) hb5 hag hg';rw[hlq]at this;exact this))
      clear ho hb5 hag hg' hb0 hlq QN HQ HOW
      go_wp2
      go_roundw
      case rel=>exact ⟨q+1,_,_,c',by omega,by go_num,rfl,HFQ⟩
      case measure=>simp[intOf];omega
     ·obtain ⟨kk,hkk⟩:∃kk,k=kk+1:=⟨k - 1,by omega⟩
      have hwrap:IntKind.i64.wrap ((k:Int) - 1)=(kk:Int):=by rw[IntKind.wrap_i64];omega
      have hkw:kk<word.length:=by have:=HKW.out;omega
      have hkr:kk<rows.length:=by have:=HRL.out;omega
      obtain ⟨hz0,hzw⟩:=HVJ.out wy (HAR.out.trans (.of_ext exy))
      obtain ⟨hr0,hr7⟩:=hzw.nums hkw (by decide)
      have hbw1:=zI hzw.ad.1 (show 0<word.length by omega) (kk * 7)
      obtain ⟨r,hr⟩:∃r,r=nthL word kk:=⟨_,rfl⟩
      rw[←hr]at hr0 hr7
      have hRok2:RoundOK N r:=by rw[hr];exact hRok _ (yl hkw)
      have q1:=QW.out j hjt
      have q2:=qv hzw.ad.1 kk hkw
      have hvl:=HK.out.vs.lt
      have hT71:=HKS.out.hi
      have hTS:=HKS.out.mid
      have hvs:Lists (fun b=>wB.heap.size≤b∧b<wC.heap.size) wC (.slice va rows.length vc) rows:=Lists.of_sl (HK.out.vs.slS (by have:=HRL.out;omega) fun g hg=>hvl g hg)
      have hvy:Lists (fun b=>wB.heap.size≤b∧b<wC.heap.size) wy (.slice va rows.length vc) rows:=hvs.agree ((HQ.out.ag.trans (.of_ext exy)).mono fun b hb=>⟨hb.2,by omega⟩)
      obtain ⟨_,_,hvf,vad,_⟩:=hvy.form
      obtain ⟨i0,hi,_,hz1,_⟩:=info_parts zF
      have q3:∀W':World,(Instr.indexAt 47 (.slice va rows.length vc) (.int .i64 kk)).run Tryz.prog W'=.ok (.pointer (some (adr va kk))) W':=by
       injection hvf with hv1 hv2 hv3
       rw[←hv1,←hv3]at vad
       exact zz Tryz.underlying47 hi hz1 vad kk hkr
      obtain ⟨pv,hpc,hpi⟩:=hvy.at (.refl _ _) hkr
      obtain ⟨pa,pc,rfl,_⟩:=hpi.form
      obtain ⟨prev,hprev⟩:∃prev,prev=nthL rows kk:=⟨_,rfl⟩
      rw[←hprev]at hpc hpi
      have hpl:prev.length=N∧∀x∈prev,WF x:=by
       have:=HRB.out prev (by rw[hprev];exact yl hkr)
       exact ⟨this.1,hpi.wf⟩
      have hr7y:Row wy T7 49 [.int .i64 c,.slice wb word.length wk,.slice va rows.length vc]:=(HK.out.r7.agree HQ.out.ag ⟨by have:=HK.out.ag.size;omega,by omega⟩).ext exy
      have KEEP:Hid (∀w',Below wy.heap.size wy w'→(fun w':World=>w'.cell? (adr wa j)=some (.slice wb word.length wk)∧w'.cell? (adr wb (kk * 7))=some (.int .i64 (nth r 0))∧w'.cell? ⟨(adr wb (kk * 7)).block,(adr wb (kk * 7)).off+1,none⟩=some (.int .i64 (nth r 1))∧w'.cell? ⟨(adr wb (kk * 7)).block,(adr wb (kk * 7)).off+2,none⟩=some (.int .i64 (nth r 2))∧w'.cell? ⟨(adr wb (kk * 7)).block,(adr wb (kk * 7)).off+3,none⟩=some (.int .i64 (nth r 3))∧w'.cell? ⟨(adr wb (kk * 7)).block,(adr wb (kk * 7)).off+4,none⟩=some (.int .i64 (nth r 4))∧w'.cell? ⟨(adr wb (kk * 7)).block,(adr wb (kk * 7)).off+5,none⟩=some (.int .i64 (nth r 5))∧w'.cell? ⟨T7,2,none⟩=some (.slice va rows.length vc)∧w'.cell? (adr va kk)=some (.slice pa prev.length pc)) w'):=zhd fun w' hw=>⟨zm hz0 hw,zm hr0 hw,zm (hr7 1 (by decide)) hw,zm (hr7 2 (by decide)) hw,zm (hr7 3 (by decide)) hw,zm (hr7 4 (by decide)) hw,zm (hr7 5 (by decide)) hw,(hr7y.ext hw).zc 2 rfl,zm hpc hw⟩
      obtain ⟨v,hv⟩:∃v,v=seenV r N k q prev:=⟨_,rfl⟩
      have KSE:Hid (∀W,Below wy.heap.size wy W→Calls Tryz.prog 108 #[.agg #[.int .i64 (nth r 0),.int .i64 (nth r 1),.int .i64 (nth r 2),.int .i64 (nth r 3),.int .i64 (nth r 4),.int .i64 (nth r 5)],.int .i64 k,.int .i64 q,.slice pa prev.length pc] W (Post W fun _ x=>x=.agg #[.int .i64 (nth v 0),.int .i64 (nth v 1),.int .i64 (nth v 2),.int .i64 (nth v 3),.int .i64 (nth v 4),.int .i64 (nth v 5),.int .i64 (nth v 6),.int .i64 (nth v 7)])):=zhd fun W hW=>by rw[hv];exact zao hRok2.n0 (by omega) hqN (hRok2.low q (by omega)) (hpi.ext hW) hpl.1
      have HVO:Hid (ViewOK v):=zhd (by rw[hv];exact zaK hpl.2 (by omega) (by omega))
      have HSTEP:=zhd (HST0.out v (by rw[hv,hr,hprev];unfold mkV;rw[if_neg (by omega),show k - 1=kk by omega]))
      have FINV:Hid (∀w2,Below wy.heap.size wy w2→Row (sets V11 [(0,.int .i64 (nth v 0)),(1,.int .i64 (nth v 1)),(2,.int .i64 (nth v 2)),(3,.int .i64 (nth v 3)),(4,.int .i64 (nth v 4)),(5,.int .i64 (nth v 5)),(6,.int .i64 (nth v 6)),(7,.int .i64 (nth v 7))] w2) V11 134 [.int .i64 (nth v 0),.int .i64 (nth v 1),.int .i64 (nth v 2),.int .i64 (nth v 3),.int .i64 (nth v 4),.int .i64 (nth v 5),.int .i64 (nth v 6),.int .i64 (nth v 7)]∧Below wr.heap.size wr (sets V11 [(0,.int .i64 (nth v 0)),(1,.int .i64 (nth v 1)),(2,.int .i64 (nth v 2)),(3,.int .i64 (nth v 3)),(4,.int .i64 (nth v 4)),(5,.int .i64 (nth v 5)),(6,.int .i64 (nth v 6)),(7,.int .i64 (nth v 7))] w2)):=zhd fun w2 hw=>⟨(RU.ext hw).sets [(0,.int .i64 (nth v 0)),(1,.int .i64 (nth v 1)),(2,.int .i64 (nth v 2)),(3,.int .i64 (nth v 3)),(4,.int .i64 (nth v 4)),(5,.int .i64 (nth v 5)),(6,.int .i64 (nth v 6)),(7,.int .i64 (nth v 7))],zD hV4 _ _ (za exy hw)⟩
      have hxl1:=QW.out
      clear hv hr hprev hpl hpi hr7y hvy hvs hvf vad hi hz1 hz0 hzw hr0 hr7 hvl hpc hkw hkr hkk HST0 HPL HUO HUV hRok2 hxl1
      go_wp2
      refine zH (fun w':World=>w'.cell? (adr wa j)=some (.slice wb word.length wk)∧w'.cell? (adr wb (kk * 7))=some (.int .i64 (nth r 0))∧w'.cell? ⟨(adr wb (kk * 7)).block,(adr wb (kk * 7)).off+1,none⟩=some (.int .i64 (nth r 1))∧w'.cell? ⟨(adr wb (kk * 7)).block,(adr wb (kk * 7)).off+2,none⟩=some (.int .i64 (nth r 2))∧w'.cell? ⟨(adr wb (kk * 7)).block,(adr wb (kk * 7)).off+3,none⟩=some (.int .i64 (nth r 3))∧w'.cell? ⟨(adr wb (kk * 7)).block,(adr wb (kk * 7)).off+4,none⟩=some (.int .i64 (nth r 4))∧w'.cell? ⟨(adr wb (kk * 7)).block,(adr wb (kk * 7)).off+5,none⟩=some (.int .i64 (nth r 5))∧w'.cell? ⟨T7,2,none⟩=some (.slice va rows.length vc)∧w'.cell? (adr va kk)=some (.slice pa prev.length pc)) (fun i=>i==18) (by kernel_rfl) ?_ (fun hHeld=>?_)
      ·exact KEEP.out _ (zh _ _ 1)
      refine anyE_take 0 (v:=?_) rfl (by kernel_rfl) (fun _ _ _ h=>h) (by rfl) ?hy0 hHeld ?r0
      case hy0=>(intro w hSw;(try dsimp only at hSw);go_simp;try with_reducible rfl)
      try simp only[Act.put,zsa,zsz,zss]
      refine anyE_take 1 (v:=?_) rfl (by kernel_rfl) (fun _ _ _ h=>h) (by rfl) ?hy1 hHeld ?r1
      case hy1=>(intro w hSw;(try dsimp only at hSw);go_simp;try with_reducible rfl)
      try simp only[Act.put,zsa,zsz,zss]
      refine anyE_take 2 (v:=?_) rfl (by kernel_rfl) (fun _ _ _ h=>h) (by rfl) ?hy2 hHeld ?r2
      case hy2=>(intro w hSw;(try dsimp only at hSw);go_simp;try with_reducible rfl)
      try simp only[Act.put,zsa,zsz,zss]
      refine anyE_take 3 (v:=?_) rfl (by kernel_rfl) (fun _ _ _ h=>h) (by rfl) ?hy3 hHeld ?r3
      case hy3=>(intro w hSw;(try dsimp only at hSw);go_simp;try with_reducible rfl)
      try simp only[Act.put,zsa,zsz,zss]
      refine anyE_take 4 (v:=?_) rfl (by kernel_rfl) (fun _ _ _ h=>h) (by rfl) ?hy4 hHeld ?r4
      case hy4=>(intro w hSw;(try dsimp only at hSw);go_simp;try with_reducible rfl)
      try simp only[Act.put,zsa,zsz,zss]
      refine anyE_take 5 (v:=?_) rfl (by kernel_rfl) (fun _ _ _ h=>h) (by rfl) ?hy5 hHeld ?r5
      case hy5=>(intro w hSw;(try dsimp only at hSw);go_simp;try with_reducible rfl)
      try simp only[Act.put,zsa,zsz,zss]
      refine anyE_take 6 (v:=?_) rfl (by kernel_rfl) (fun _ _ _ h=>h) (by rfl) ?hy6 hHeld ?r6
      case hy6=>(intro w hSw;(try dsimp only at hSw);go_simp;try with_reducible rfl)
      try simp only[Act.put,zsa,zsz,zss]
      refine anyE_take 7 (v:=?_) rfl (by kernel_rfl) (fun _ _ _ h=>h) (by rfl) ?hy7 hHeld ?r7
      case hy7=>(intro w hSw;(try dsimp only at hSw);go_simp;try with_reducible rfl)
      try simp only[Act.put,zsa,zsz,zss]
      refine anyE_take 8 (v:=?_) rfl (by kernel_rfl) (fun _ _ _ h=>h) (by rfl) ?hy8 hHeld ?r8
      case hy8=>(intro w hSw;(try dsimp only at hSw);go_simp;try with_reducible rfl)
      try simp only[Act.put,zsa,zsz,zss]
      refine anyE_take 9 (v:=?_) rfl (by kernel_rfl) (fun _ _ _ h=>h) (by rfl) ?hy9 hHeld ?r9
      case hy9=>(intro w hSw;(try dsimp only at hSw);go_simp;try with_reducible rfl)
      try simp only[Act.put,zsa,zsz,zss]
      refine anyE_take 10 (v:=?_) rfl (by kernel_rfl) (fun _ _ _ h=>h) (by rfl) ?hy10 hHeld ?r10
      case hy10=>(intro w hSw;(try dsimp only at hSw);go_simp;try with_reducible rfl)
      try simp only[Act.put,zsa,zsz,zss]
      refine anyE_take 11 (v:=?_) rfl (by kernel_rfl) (fun _ _ _ h=>h) (by rfl) ?hy11 hHeld ?r11
      case hy11=>(intro w hSw;(try dsimp only at hSw);go_simp;try with_reducible rfl)
      try simp only[Act.put,zsa,zsz,zss]
      refine anyE_take 12 (v:=?_) rfl (by kernel_rfl) (fun _ _ _ h=>h) (by rfl) ?hy12 hHeld ?r12
      case hy12=>(intro w hSw;(try dsimp only at hSw);go_simp;try with_reducible rfl)
      try simp only[Act.put,zsa,zsz,zss]
      refine anyE_take 13 (v:=?_) rfl (by kernel_rfl) (fun _ _ _ h=>h) (by rfl) ?hy13 hHeld ?r13
      case hy13=>(intro w hSw;(try dsimp only at hSw);go_simp;try with_reducible rfl)
      try simp only[Act.put,zsa,zsz,zss]
      refine anyE_take 14 (v:=?_) rfl (by kernel_rfl) (fun _ _ _ h=>h) (by rfl) ?hy14 hHeld ?r14
      case hy14=>(intro w hSw;(try dsimp only at hSw);go_simp;try with_reducible rfl)
      try simp only[Act.put,zsa,zsz,zss]
      refine anyE_take 15 (v:=?_) rfl (by kernel_rfl) (fun _ _ _ h=>h) (by rfl) ?hy15 hHeld ?r15
      case hy15=>(intro w hSw;(try dsimp only at hSw);go_simp;try with_reducible rfl)
      try simp only[Act.put,zsa,zsz,zss]
      refine anyE_take 16 (v:=?_) rfl (by kernel_rfl) (fun _ _ _ h=>h) (by rfl) ?hy16 hHeld ?r16
      case hy16=>(intro w hSw;(try dsimp only at hSw);go_simp;try with_reducible rfl)
      try simp only[Act.put,zsa,zsz,zss]
      refine anyE_one 17 rfl (by kernel_rfl) (fun K hK=>?_)
      go_simp;go_at_call 108;refine (KSE.out _ (zh _ _ 1)).mono ?_;rintro _ w2 ⟨_,rfl,hb2,rfl⟩;have y2:=za (zh _ _ 1) hb2;have hRW:=RU.ext y2;have d0:=hRW.zc 0 rfl;have f0:=hRW.free 0;have d1:=hRW.zc 1 rfl;have f1:=hRW.free 1;have d2:=hRW.zc 2 rfl;have f2:=hRW.free 2;have d3:=hRW.zc 3 rfl;have f3:=hRW.free 3;have d4:=hRW.zc 4 rfl;have f4:=hRW.free 4;have d5:=hRW.zc 5 rfl;have f5:=hRW.free 5;have d6:=hRW.zc 6 rfl;have f6:=hRW.free 6;have d7:=hRW.zc 7 rfl;have f7:=hRW.free 7;have hRl:=hRW.lt;clear hb2
      refine hK.out _ _ (fun _=>KEEP.out _ y2) (fun hHeld=>?_);replace hHeld:=hHeld rfl
      clear hK K
      try simp only[Act.put,zsa,zsz,zss]
      refine anyE_one 18 rfl (by kernel_rfl) (fun K hK=>?_)
      go_simp
      refine hK.out _ _ (fun h=>by simp at h) (fun hHeld=>?_)
      clear hK K
      try simp only[Act.put,zsa,zsz,zss]
      refine zy (by kernel_rfl) ?_ _
      clear hHeld KEEP KSE q1 q2 q3 hbw1 hwrap
      obtain ⟨wx,hwx⟩:∃wx,wx=sets V11 [(0,.int .i64 (nth v 0)),(1,.int .i64 (nth v 1)),(2,.int .i64 (nth v 2)),(3,.int .i64 (nth v 3)),(4,.int .i64 (nth v 4)),(5,.int .i64 (nth v 5)),(6,.int .i64 (nth v 6)),(7,.int .i64 (nth v 7))] w2:=⟨_,rfl⟩
      obtain ⟨RV,ex2⟩:=FINV.out w2 y2
      rw[←hwx]at RV ex2
      unfold sets at hwx
      simp only[List.foldl_cons,List.foldl_nil]at hwx
      rw[←hwx]
      clear hwx d0 d1 d2 d3 d4 d5 d6 d7 f0 f1 f2 f3 f4 f5 f6 f7 hRW hRl RU exy y2 FINV
      have hS3x:=HQ.out.r3.ext ex2
      have s7:=hS3x.zc 7 rfl
      have s8:=hS3x.zc 8 rfl
      have v0:=RV.zc 0 rfl
      have v1:=RV.zc 1 rfl
      have v2:=RV.zc 2 rfl
      have v3:=RV.zc 3 rfl
      have v4:=RV.zc 4 rfl
      have v5:=RV.zc 5 rfl
      have v6:=RV.zc 6 rfl
      have v7:=RV.zc 7 rfl
      have lS:=hS3x.lt
      have lV:=RV.lt
      have hwx:=ex2.size
      have KP:Hid (∀W,Below wx.heap.size wx W→Calls Tryz.prog 109 #[.agg #[.int .i64 N,.slice ta tq.length tc],.agg #[.int .i64 (nth v 0),.int .i64 (nth v 1),.int .i64 (nth v 2),.int .i64 (nth v 3),.int .i64 (nth v 4),.int .i64 (nth v 5),.int .i64 (nth v 6),.int .i64 (nth v 7)]] W (Post W (PutR N (fun b=>((fun b=>(wA.heap.size≤b∧b<T7∧(Value.slice xa ex.length xc).ownBlock≠some b)∨(wB.heap.size≤b∧b<wC.heap.size∧(Value.slice va rows.length vc).ownBlock≠some b))) b∨(wC.heap.size≤b∧b<wr.heap.size∧(Value.slice la q lc).ownBlock≠some b)) W tq v))):=zhd fun W hW=>Yu N (HQ.out.tb.ext (za ex2 hW)) HVO.out HTQ.out
      clear RV
      go_wp2_with fail
      refine (KP.out _ (.refl _ _)).mono ?_
      rintro _ w3 ⟨_,rfl,hb3,vt',rfl,hvt⟩
      obtain ⟨ta2,tc2,rfl,_⟩:=hvt.form
      have ex3:=za ex2 hb3
      have zzRT:=ze w3 [.int .i64 N,.slice ta2 (addV tq v).length tc2] 36
      have hS3z:=(hS3x.ext hb3).alloc (.cells #[.int .i64 N,.slice ta2 (addV tq v).length tc2] 36)
      have ex4:=zg ex3 (.cells #[.int .i64 N,.slice ta2 (addV tq v).length tc2] 36)
      have hvt:=hvt.ext (zb w3 (.cells #[.int .i64 N,.slice ta2 (addV tq v).length tc2] 36))
      clear s7 s8 v0 v1 v2 v3 v4 v5 v6 v7 lS lV KP hS3x hb3 ex3
      go_upto_region 21 with fail
      obtain ⟨wz,hwz⟩:∃wz,wz=w3.alloc (.cells #[.int .i64 N,.slice ta2 (addV tq v).length tc2] 36):=⟨_,rfl⟩
      obtain ⟨T12,hT12⟩:∃T12,T12=w3.heap.size:=⟨_,rfl⟩
      rw[←hwz]at zzRT hS3z ex4 hvt
      rw[←hT12]at zzRT
      rw[←hwz,←hT12]
      clear hwz hT12
      have u7:=hS3z.zc 7 rfl
      have u8:=hS3z.zc 8 rfl
      have g7:=hS3z.free 7
      have g8:=hS3z.free 8
      have lz:=hS3z.lt
      have t0:=zzRT.zc 0 rfl
      have t1:=zzRT.zc 1 rfl
      have lt:=zzRT.lt
      have QN:=zhd (BQ.next HSQ.out HQ.out ex4 hwx hvt)
      have hb0:wC.heap.size≤((wz.setCell ⟨S3,7,none⟩ (.int .i64 N)).setCell ⟨S3,8,none⟩ (.slice ta2 (addV tq v).length tc2)).heap.size:=QN.out.ag.size
      have hlq:=HLQ.out
      clear hvt hwx ex4
      have HOW:Hid (((wz.setCell ⟨S3,7,none⟩ (.int .i64 N)).setCell ⟨S3,8,none⟩ (.slice ta2 (addV tq v).length tc2)).ownsRow wC.heap.size 3 1 (.slice la q lc) q (nums.map (Value.int .i64))):=zhd (by have:=QN.out.l;unfold Cnts at this;rw[hlq]at this;exact this)
      go_upto_region 22 with fail
      obtain ⟨wp,hwp⟩:∃wp,wp=(wz.setCell ⟨S3,7,none⟩ (.int .i64 N)).setCell ⟨S3,8,none⟩ (.slice ta2 (addV tq v).length tc2):=⟨_,rfl⟩
      rw[←hwp]at QN hb0 HOW ⊢
      clear hwp u7 u8 g7 g8 lz hS3z zzRT t0 t1 lt
      go_wp2_with (at_builtin;refine yc rfl (.tmp 99) (.tmp 101) 30 rfl 3 _ 8 Tryz.underlying30 zC rfl wC.heap.size _ q (nums.map (Value.int .i64)) rfl HOW.out (.int .i64 (idxV tq v:Nat)) rfl rfl (by omega) (by omega) hb0 ?_;intro g' c' w5 ho hb5 hag hg')
      have HFQ:=zhd (HSTEP.out _ _ _ (by have:=BQ.push HSQ.out QN.out (by rw[hlq];exact ho) hb5 hag hg';rw[hlq]at this;exact this))
      clear ho hb5 hag hg' hb0 hlq QN HQ HOW
      go_wp2
      go_roundw
      case rel=>exact ⟨q+1,_,_,c',by omega,by go_num,rfl,HFQ⟩
      case measure=>simp[intOf];omega
end Go.Proofs.YtjpakklplhabdaaGreat
