/- Part of the proof that the laws answer true for every input. -/
import Derived.Test.YtjpakklplhabdaaGreatPGaA29
import Derived.Test.YtjpakklplhabdaaGreatPGaA36
set_option linter.unusedSimpArgs false
set_option linter.unnecessarySimpa false
set_option linter.unusedVariables false
set_option maxRecDepth 100000
set_option maxHeartbeats 40000000
namespace Go.Proofs.YtjpakklplhabdaaGreat
open Go.RowKit
theorem flat25 {n:Nat}:∀{xs:List (List Value)} {j i:Nat},(∀c∈xs,c.length=n)→j<xs.length→i<n→xs.flatten[j * n+i]? =(xs.getD j [])[i]?
 | [],j,i,_,hj,_=>by simp at hj
 | c::xs,0,i,h,_,hi=>by
  have:=h c (by simp)
  rw[List.flatten_cons,List.getElem?_append_left (by omega)]
  simp
 | c::xs,j+1,i,h,hj,hi=>by
  have hc:=h c (by simp)
  have:=flat25 (xs:=xs) (j:=j) (i:=i) (fun d hd=>h d (List.mem_cons_of_mem _ hd)) (by simpa using hj) hi
  rw[List.flatten_cons,List.getElem?_append_right (by rw[hc,Nat.add_mul];omega),hc,show (j+1) * n+i - n=j * n+i by rw[Nat.add_mul];omega,this]
  simp
theorem YM {α:Type} {K:Kd α} {S:Nat→Prop} {w:World} {b:Nat} {e:TypeId} {l:List α} (xs:List (List Value)) (R:Row w b e xs.flatten) (hS:S b) (hl:l.length=xs.length) (hs:∀c∈xs,c.length=K.size) (hm:l.length≤100000) (hr:∀j (h:j<l.length),K.rd S w (xs.getD j []) l[j]):Sl K S w (.slice (some ⟨b,0,none⟩) l.length l.length) l:=by
 refine ⟨_,_,rfl,.inr ⟨b,0,rfl,R.lt,hS⟩,Nat.le_refl _,⟨by unfold maxLen;omega,by omega⟩,fun j hj=>⟨xs.getD j [],fun i hi=>?_,hr j hj⟩⟩
 rw[zZ,Nat.zero_add]
 have h1:=flat25 hs (show j<xs.length by omega) hi
 cases h2:(xs.getD j [])[i]? with
 | none=>
  rw[List.getElem?_eq_none_iff]at h2
  have:=hs (xs.getD j []) (by rw[List.getD_eq_getElem?_getD,List.getElem?_eq_getElem (by omega)];exact List.getElem_mem _)
  omega
 | some u=>exact R.cell (by rw[h1,h2])
theorem pbuild25 {S:Nat→Prop} {w:World} {vc vs:Value} {p:ProbD} (hc:Sl kCase S w vc p.cs) (hs:Sl (kSl (kFlat 8)) S w vs p.st) (hf:PFew p) (h0:buildE p=0):
  Calls Tryz.prog 15 #[.agg #[.int .i64 p.n,.int .i64 p.ins,.int .i64 p.outs,vc,.int .i64 p.an,vs,.int .i64 p.rounds]] w (Post w fun w' r=>∃v,r=.tuple #[v,.int .i64 0]∧SysV (fun b=>(S b∧b<w.heap.size)∨w.heap.size≤b) w' v p.full):=by
 obtain ⟨h1,h2⟩:=yk h0
 obtain ⟨N,hok⟩:=probOK h1
 obtain ⟨h3,h4⟩:=hf.small h1 h2
 obtain ⟨n,ins,outs,cs,an,st,rounds⟩:=p
 obtain ⟨K,hK⟩:∃K:Nat,rounds=K:=⟨rounds.toNat,by have:=hok.r;dsimp only at this;omega⟩
 have e1:=hok.n
 have e2:=hok.an
 dsimp only at e1 e2
 subst e1 e2 hK
 exact Yo hc.block hs.block hok hf.cp h1 h3 (by dsimp only at h4;omega)
theorem full25 {p:ProbD} (h:buildE p=0):verE p.full=0:=by
 unfold verE
 have e:p.full.p=p:=rfl
 rw[e,if_pos h,if_pos ⟨rfl,rfl,rfl⟩]
theorem lists25 {S:Nat→Prop} {w:World} {b:Nat} {e:TypeId} {v:Value} {l:List Int} (R:Row w b e [v]) (hS:S b) (h:Ints S w v l):Lists S w (.slice (some ⟨b,0,none⟩) 1 1) [l]:=by
 refine ⟨_,_,rfl,.inr ⟨b,0,rfl,R.lt,hS⟩,Nat.le_refl _,by unfold maxLen;simp,fun j hj=>?_⟩
 obtain rfl:j=0:=by simpa using hj
 exact ⟨v,R.zc 0 rfl,h⟩
end Go.Proofs.YtjpakklplhabdaaGreat
namespace Go.Proofs.YtjpakklplhabdaaGreat
open Go.RowKit
attribute [local go_sem ↓] Go.wp_at_zero Go.wp_at_succ
theorem tupB {a b:Bool} {x y:Int} (h:a=b) (h2:x=y):Value.tuple #[.bool a,.int .i64 x]=Value.tuple #[.bool b,.int .i64 y]:=by rw[h,h2]
def conB (l:List Int):Bool:= !(l.any fun x=> !decide (x=nth l 0))
def agrT (cs:List CaseD):Bool:=cs.all fun c=>c.out.all conB
theorem zeM {l:List Int} (h:conB l=true):∀q,q<l.length→nth l q=nth l 0:=fun q hq=>by
 unfold conB at h
 rw[Bool.not_eq_true',List.any_eq_false]at h
 have:=h (nth l q) (by rw[yq hq];exact List.getElem_mem hq)
 simpa using this
theorem zeN {cs:List CaseD} (h:agrT cs=true):∀c,c<cs.length→∀v∈(nthC cs c).out,∀q,q<v.length→nth v q=nth v 0:=fun c hc v hv q hq=>by
 have h1:=List.all_eq_true.1 h (nthC cs c) (by rw[Qd hc];exact List.getElem_mem hc)
 exact zeM (List.all_eq_true.1 h1 v hv) q hq
theorem zd8 {α:Type} {p:α→Bool} {l:List α} {k:Nat} (hk:k<l.length) (h:p l[k]=false):l.all p=false:=List.all_eq_false.2 ⟨_,List.getElem_mem hk,by rw[h];simp⟩
theorem zco {α:Type} {p:α→Bool} {l:List α} (h:∀k (hk:k<l.length),p l[k]=true):l.all p=true:=List.all_eq_true.2 fun x hx=>by
 obtain ⟨j,hj,rfl⟩:=List.getElem_of_mem hx
 exact h j hj
theorem zdP {S:Nat→Prop} {w:World} {b:Nat} {a:Option Addr} {c:Nat} {l:List Int} (x:Int) (h:Ints S w (.slice a l.length c) l) (hl:0<l.length) (hc:w.cell? ⟨b,0,none⟩=some (.slice a l.length c)):
  Calls Tryz.prog 49 #[.int .i64 x,.pointer (some ⟨b,0,none⟩)] w (QuietP w (.bool (!decide (x=nth l 0)))):=by
 have q0:∀W,(Instr.indexAt 30 (.slice a l.length c) (.int .i64 0)).run Tryz.prog W=.ok (.pointer (some (adr a 0))) W:=fun W=>h.idx hl W
 have c0:=h.cellN hl
 obtain ⟨y,hy⟩:∃y,y=nth l 0:=⟨_,rfl⟩
 rw[←hy]at c0 ⊢
 clear h hy
 go_enter Tryz.func49,Tryz.ntmps49
 go_wp2
 go_ret
 exact .of (zv (by by_cases e:x=y<;>simp[e])) 0
theorem zam {S:Nat→Prop} {w:World} {v:Value} {l:List Int} (h:Ints S w v l):
  Calls Tryz.prog 21 #[v] w (Post w fun _ r=>r=.bool (conB l)):=by
 obtain ⟨a,c,rfl,_⟩:=h.form
 have ex:=zb w (.cells #[.slice a l.length c] 30)
 have R:=ze w [.slice a l.length c] 30
 have HI:=zhd (h.ext ex)
 have K:=zhd (ym (h.ext ex) (g:=49) (c0:=.pointer (some ⟨w.heap.size,0,none⟩)) (fun x=> !decide (x=nth l 0)) (by intro args w;rfl) fun W hW k hk=>by
  rw[←yq hk]
  exact zdP _ (HI.out.ext hW.ext) (by omega) ((R.ext hW.ext).cell rfl))
 have HR:Hid (conB l= !(l.any fun x=> !decide (x=nth l 0))):=zhd rfl
 obtain ⟨z,hz⟩:∃z,z=l.any fun x=> !decide (x=nth l 0):=⟨_,rfl⟩
 rw[←hz]at K HR
 obtain ⟨r,hr⟩:∃r,r=conB l:=⟨_,rfl⟩
 rw[←hr]at HR ⊢
 have c0:=R.zc 0 rfl
 have l0:=R.lt
 clear h R hz hr HI
 go_enter Tryz.func21,Tryz.ntmps21
 go_wp2_with fail
 refine (K.out.mono fun _ _ h=>h.take).mono ?_
 rintro _ w2 ⟨_,rfl,hq2,rfl⟩
 clear c0 l0 K
 go_wp2
 go_ret
 exact .mk (za ex hq2.ext) (zv HR.out.symm)
theorem zaq {S:Nat→Prop} {w:World} {vc:Value} {l:List CaseD} (n ins outs:Int) (hv:Sl kCase S w vc l) (h0:checkT n ins outs l=0):
  Calls Tryz.prog 6 #[.agg #[.int .i64 n,.int .i64 ins,.int .i64 outs,vc]] w (Post w fun _ r=>r=.tuple #[.bool (agrT l),.int .i64 0]):=by
 have KC:Hid (∀W,Below w.heap.size w W→Calls Tryz.prog 20 #[.agg #[.int .i64 n,.int .i64 ins,.int .i64 outs,vc]] W (Post W fun _ r=>r=.int .i64 0)):=zhd fun W hW=>by
  have:=qh n ins outs (hv.ext hW)
  rw[h0]at this;exact this
 have HYN:Hid ((∀k (hk:k<l.length),(l[k].out.all conB)=false→agrT l=false)∧((∀k (hk:k<l.length),(l[k].out.all conB)=true)→agrT l=true)):=zhd ⟨fun k hk h=>zd8 hk h,fun h=>zco h⟩
 obtain ⟨r,hr⟩:∃r,r=agrT l:=⟨_,rfl⟩
 rw[←hr]at HYN ⊢
 have HV:=zhd hv
 obtain ⟨ca,cc,rfl,cad,lo,lm⟩:=hv.form
 unfold maxLen at lm
 have ex:=zb w (.cells #[.int .i64 n,.int .i64 ins,.int .i64 outs,.slice ca l.length cc] 24)
 have zzRT:Row (w.alloc (.cells #[.int .i64 n,.int .i64 ins,.int .i64 outs,.slice ca l.length cc] 24)) w.heap.size 24 [.int .i64 n,.int .i64 ins,.int .i64 outs,.slice ca l.length cc]:=ze w [_,_,_,_] _
 obtain ⟨ic,hic,hic1⟩:=zL (T:=62) (z:=3) (by kernel_rfl)
 have QC:=zhd (zJ Tryz.underlying22 hic hic1 cad)
 have HBK:Hid (0<l.length→∀j,(adr ca j).block<w.heap.size):=zhd fun h j=>zI cad h j
 clear hr hv h0 hic hic1 cad
 have t0:=zzRT.zc 0 rfl
 have t1:=zzRT.zc 1 rfl
 have t2:=zzRT.zc 2 rfl
 have t3:=zzRT.zc 3 rfl
 have tl:=zzRT.lt
 go_enter Tryz.func6,Tryz.ntmps6
 go_wp2_with fail
 refine (KC.out _ ex).mono ?_
 rintro _ w1 ⟨_,rfl,hb,rfl⟩
 replace zzRT:=zzRT.ext hb
 replace ex:=za ex hb
 clear hb KC t0 t1 t2 t3 tl
 have t0:=zzRT.zc 0 rfl
 have t1:=zzRT.zc 1 rfl
 have t2:=zzRT.zc 2 rfl
 have t3:=zzRT.zc 3 rfl
 have tl:=zzRT.lt
 have H0:Hid (∀j (hj:j<l.length),j<0→(l[j].out.all conB)=true):=zhd fun j _ hj=>absurd hj (by omega)
 go_wp2
 clear t0 t1 t2 t3 tl
 go_loopw [6,8,17,24] (fun _ _ i _ wr=>∃k:Nat,k≤l.length∧i=.int .i64 k∧Below w.heap.size w wr∧Hid (∀j (hj:j<l.length),j<k→(l[j].out.all conB)=true)) (fun _ _ i _ _=>l.length - (intOf i).toNat)
 case atStart=>exact ⟨0,Nat.zero_le _,rfl,ex,H0⟩
 case round=>
  clear ex zzRT H0
  obtain ⟨k,hk,rfl,hb,HZ⟩:=hrel
  by_cases hlt:k<l.length
  case neg=>
   have RE:=zhd (HYN.out.2 fun j hj=>HZ.out j hj (by omega))
   clear HYN HZ
   go_wp2
   go_ret2
   exact .mk hb (tupB RE.out.symm rfl)
  have qk:=QC.out k hlt
  have hbk:=Nat.lt_of_lt_of_le (HBK.out (by omega) (k * 3)) hb.size
  obtain ⟨v1,v2,v3,kc1,kc2,kc3,hin,hou,hca⟩:=(HV.out.ext hb).case hlt
  obtain ⟨a1,c1,rfl,_⟩:=hin.form
  obtain ⟨a2,c2,rfl,_⟩:=hou.form
  obtain ⟨a3,c3,rfl,_⟩:=hca.form
  have HY2:Hid (((nthC l k).out.all conB)=false→r=false):=zhd fun h=>HYN.out.1 k hlt (by rw[←Qd hlt];exact h)
  have HZ2:Hid (((nthC l k).out.all conB)=true→∀j (hj:j<l.length),j<k+1→(l[j].out.all conB)=true):=zhd fun h j hj hjk=>by
   by_cases e:j=k
   ·subst e;rw[←Qd hlt];exact h
   ·exact HZ.out j hj (by omega)
  obtain ⟨vs,hvs⟩:∃x,x=(nthC l k).out:=⟨_,rfl⟩
  obtain ⟨n1,hn1⟩:∃x,x=(nthC l k).inn.length:=⟨_,rfl⟩
  obtain ⟨n3,hn3⟩:∃x,x=(nthC l k).calm.length:=⟨_,rfl⟩
  rw[←hvs]at hou kc2 HY2 HZ2
  rw[←hn1]at kc1
  rw[←hn3]at kc3
  have exb:=zb wr (.cells #[.slice a1 n1 c1,.slice a2 vs.length c2,.slice a3 n3 c3] 62)
  have RC:Row (wr.alloc (.cells #[.slice a1 n1 c1,.slice a2 vs.length c2,.slice a3 n3 c3] 62)) wr.heap.size 62 [.slice a1 n1 c1,.slice a2 vs.length c2,.slice a3 n3 c3]:=ze wr [_,_,_] _
  have HOU:=zhd (hou.ext exb)
  obtain ⟨_,_,hee,oad,ol1,ol2⟩:=hou.form
  cases hee
  unfold maxLen at ol2
  have hvl:vs.length≤9223372036854775807:=by omega
  clear ol1 ol2
  obtain ⟨i0,hi0,hz0,hz1,hz2⟩:=info_parts zF
  have QR:=zhd (zz Tryz.underlying47 hi0 hz1 oad)
  have H1:Hid (∀j (hj:j<vs.length),j<0→conB vs[j]=true):=zhd fun j _ hj=>absurd hj (by omega)
  have HYI:Hid ((∀k (hk:k<vs.length),conB vs[k]=false→vs.all conB=false)∧((∀k (hk:k<vs.length),conB vs[k]=true)→vs.all conB=true)):=zhd ⟨fun k hk h=>zd8 hk h,fun h=>zco h⟩
  clear hvs hn1 hn3 hin hou hca HZ hi0 hz0 hz1 hz2 oad
  have hbb:=za hb exb
  have b1:=RC.zc 1 rfl
  have bl:=RC.lt
  obtain ⟨g,hg⟩:∃g,g=wr.heap.size:=⟨_,rfl⟩
  obtain ⟨w2,hw2⟩:∃w2,w2=wr.alloc (.cells #[.slice a1 n1 c1,.slice a2 vs.length c2,.slice a3 n3 c3] 62):=⟨_,rfl⟩
  have HG:=zhd hg
  have HW2:=zhd hw2
  rw[←hw2]at b1 bl HOU hbb RC exb
  rw[←hg]at b1 bl RC
  clear hg hw2
  go_upto_region 7 with fail
  rw[←HW2.out,←HG.out]
  clear qk hbk kc1 kc2 kc3 HW2 HG
  go_wp2
  clear b1 bl
  have ex2:=Below.refl w2.heap.size w2
  go_loopw [8,24] (fun _ i wi=>∃j:Nat,j≤vs.length∧i=.int .i64 j∧Below w2.heap.size w2 wi∧Hid (∀i (hi:i<vs.length),i<j→conB vs[i]=true)) (fun _ i _=>vs.length - (intOf i).toNat)
  case atStart=>exact ⟨0,Nat.zero_le _,rfl,ex2,H1⟩
  case round=>
   clear ex2 H1
   obtain ⟨j,hj,rfl,hbi,HC⟩:=hrel
   by_cases hjl:j<vs.length
   case neg=>
    have HN:=zhd (HZ2.out (HYI.out.2 fun i hi=>HC.out i hi (by omega)))
    replace hb:=za hbb hbi
    clear HZ2 HYI HC HY2 hbb hbi RC exb
    go_wp2
    go_roundw
    case rel=>exact ⟨k+1,by omega,by go_num,hb,HN⟩
    case measure=>simp[intOf];omega
   obtain ⟨u4,z4,h4⟩:=HOU.out.at hbi hjl
   obtain ⟨a4,c4,rfl,_⟩:=h4.form
   have q4:=QR.out j hjl
   have b4:=World.block_lt_of_cell? _ _ z4
   obtain ⟨x,hx⟩:∃x,x=nthL vs j:=⟨_,rfl⟩
   rw[←hx]at z4 h4
   have KK:=zhd (zam h4)
   have HXB:Hid (conB vs[j]=conB x):=zhd (by rw[hx,zM hjl])
   obtain ⟨z,hz⟩:∃z,z=conB x:=⟨_,rfl⟩
   rw[←hz]at KK HXB
   clear hx hz h4
   go_wp2_with fail
   refine KK.out.mono ?_
   rintro _ w3 ⟨_,rfl,hb3,rfl⟩
   replace hbi:=za hbi hb3
   clear KK hb3 z4 q4 b4
   cases z with
   | false=>
    have RE:=zhd (HY2.out (HYI.out.1 j hjl HXB.out))
    replace hb:=za hbb hbi
    clear HYI HC HY2 HZ2 HYN
    go_wp2
    go_ret2
    exact .mk hb (tupB RE.out.symm rfl)
   | true=>
    have HN:Hid (∀i (hi:i<vs.length),i<j+1→conB vs[i]=true):=zhd fun i hi hij=>by
     by_cases e:i=j
     ·subst e;exact HXB.out
     ·exact HC.out i hi (by omega)
    clear HC
    go_wp2
    go_roundw
    case rel=>exact ⟨j+1,by omega,by go_num,hbi,HN⟩
    case measure=>simp[intOf];omega
theorem zdX (w:World) (b:Nat) (x v:Int) (hc:w.cell? ⟨b,0,none⟩=some (.int .i64 v)):Calls Tryz.prog 12 #[.int .i64 x,.pointer (some ⟨b,0,none⟩)] w (QuietP w (.bool (!decide (x=v)))):=by
 go_enter Tryz.func12,Tryz.ntmps12
 go_wp2
 go_ret
 exact .of (zv (by by_cases e:x=v<;>simp[e])) 0
theorem QA {S:Nat→Prop} {w:World} {va:Value} {l:List Int} {b:Nat} {v:Int} (h:Ints S w va l) (hc:w.cell? ⟨b,0,none⟩=some (.int .i64 v)):
  Calls Tryz.prog 11 #[va,.func (.func 12) #[] #[.pointer (some ⟨b,0,none⟩)]] w (Post w fun _ r=>r=.bool (l.any fun x=> !decide (x=v))):=
 (ym h (g:=12) (c0:=.pointer (some ⟨b,0,none⟩)) (fun x=> !decide (x=v)) (by intro args w;rfl) fun W hW k hk=>by
  rw[←yq hk]
  exact zdX _ _ _ _ (zm hc hW.ext)).mono fun _ _ h=>h.post
theorem Y9 {S:Nat→Prop} {w:World} {wa va:Option Addr} {wc vn vc:Nat} {word:List (List Int)} (c:Int) (h:Sl (kFlat 7) S w (.slice wa word.length wc) word):
  Calls Tryz.prog 9 #[.agg #[.int .i64 c,.slice wa word.length wc,.slice va vn vc]] w (Post w fun _ r=>r=.int .i64 (fltyW word)):=by
 have ex:=zb w (.cells #[.int .i64 c,.slice wa word.length wc,.slice va vn vc] 49)
 have R1:=ze w [.int .i64 c,.slice wa word.length wc,.slice va vn vc] 49
 have c1:=R1.zc 1 rfl
 have l1:=R1.lt
 by_cases h0:word.length=0
 ·have RR:Hid (fltyW word=0):=zhd (by unfold fltyW;rw[if_pos h0])
  have d1:((word.length:Int)==0)=true:=by simp[h0]
  clear h h0
  go_enter Tryz.func9,Tryz.ntmps9
  go_wp2
  go_ret
  exact .mk ex (zi RR.out.symm)
 ·have RR:Hid (fltyW word=nth (nthL word (word.length - 1)) 6):=zhd (by unfold fltyW;rw[if_neg h0])
  obtain ⟨m,hm⟩:∃m,word.length=m+1:=⟨word.length - 1,by omega⟩
  obtain ⟨_,_,he,ad,_⟩:=h.form2
  cases he
  have q1:=qv ad m (by omega)
  have z:=(h.nums (k:=m) (by omega) (by decide)).2 6 (by decide)
  have bk:=World.block_lt_of_cell? _ _ z
  rw[hm,Nat.add_sub_cancel]at RR
  obtain ⟨x,hx⟩:∃x,x=nth (nthL word m) 6:=⟨_,rfl⟩
  rw[←hx]at z RR
  obtain ⟨L,hL⟩:∃L,L=word.length:=⟨_,rfl⟩
  rw[←hL]at ex R1 c1 l1 q1 ⊢
  have hml:(L:Int)≤140737488355328:=by have:=h.few;omega
  have d1:((L:Int)==0)=false:=by simp;omega
  have d2:((L:Int) - 1)=(m:Int):=by omega
  clear hL
  clear h h0 hm ad hx
  go_enter Tryz.func9,Tryz.ntmps9
  go_wp2
  go_ret
  exact .mk ex (zi RR.out.symm)
theorem zai {S:Nat→Prop} {w:World} {wa va:Option Addr} {wc vn vc:Nat} {word:List (List Int)} (c:Int) (h:Sl (kFlat 7) S w (.slice wa word.length wc) word):
  Calls Tryz.prog 8 #[.agg #[.int .i64 c,.slice wa word.length wc,.slice va vn vc]] w (Post w fun _ r=>r=.bool (!decide (fltyW word=0))):=by
 have ex:=zb w (.cells #[.int .i64 c,.slice wa word.length wc,.slice va vn vc] 49)
 have R1:=ze w [.int .i64 c,.slice wa word.length wc,.slice va vn vc] 49
 have K:=zhd (Y9 (va:=va) (vn:=vn) (vc:=vc) c (h.ext ex))
 have c0:=R1.zc 0 rfl
 have c1:=R1.zc 1 rfl
 have c2:=R1.zc 2 rfl
 have l1:=R1.lt
 obtain ⟨x,hx⟩:∃x,x=fltyW word:=⟨_,rfl⟩
 rw[←hx]at K ⊢
 clear hx h R1
 go_enter Tryz.func8,Tryz.ntmps8
 go_wp2_with fail
 refine K.out.mono ?_
 rintro _ w1 ⟨_,rfl,hb,rfl⟩
 clear c0 c1 c2 l1 K
 go_wp2
 go_ret
 exact .mk (za ex hb) (zv (by by_cases e:x=0<;>simp[e]))
def fltB (l:List ExecD):Bool:=(List.range l.length).any fun k=> !decide (fltyW (nthX l k).word=0)
theorem zeJ {l:List ExecD} (h:fltB l=false):∀k,k<l.length→fltyW (nthX l k).word=0:=fun k hk=>by
 have:=List.any_eq_false.1 h k (List.mem_range.2 hk)
 simpa using this
theorem zdO {l:List ExecD} {k:Nat} (hk:k<l.length) (h:(!decide (fltyW (nthX l k).word=0))=true):fltB l=true:=List.any_eq_true.2 ⟨k,List.mem_range.2 hk,h⟩
theorem zcs {l:List ExecD} (h:∀k,k<l.length→(!decide (fltyW (nthX l k).word=0))=false):fltB l=false:=List.any_eq_false.2 fun k hk=>by rw[h k (List.mem_range.1 hk)];simp
theorem zbk {S:Nat→Prop} {w:World} {va:Value} {l:List ExecD} (h:Sl kExec S w va l):
  Calls Tryz.prog 22 #[va,.func (.func 8) #[] #[]] w (Post w fun _ r=>∃x:Int,r=.int .i64 x∧(0≤x↔fltB l=true)):=by
 have HY:Hid ((∀k:Nat,k<l.length→(!decide (fltyW (nthX l k).word=0))=true→(0≤(k:Int)↔fltB l=true))∧((∀k,k<l.length→(!decide (fltyW (nthX l k).word=0))=false)→((0:Int)≤ -1↔fltB l=true))):=zhd ⟨fun k hk h=>⟨fun _=>zdO hk h,fun _=>by omega⟩,fun h=>⟨fun h2=>by omega,fun h2=>by rw[zcs h]at h2;cases h2⟩⟩
 obtain ⟨z,hz⟩:∃z,z=fltB l:=⟨_,rfl⟩
 rw[←hz]at HY ⊢
 obtain ⟨a,c,rfl,ad,l1,lm⟩:=h.form2
 unfold maxLen at lm
 have HI:=zhd h
 have QX:=zhd (yg ad)
 have HBK:Hid (0<l.length→∀j,(adr a j).block<w.heap.size):=zhd fun h j=>zI ad h j
 have H0:Hid (∀i,i<0→(!decide (fltyW (nthX l i).word=0))=false):=zhd fun i hi=>by omega
 have ex:=Below.refl w.heap.size w
 have eg:∀args w,(callFunc 8 args).run Tryz.prog w=.ok (.enter 8 args) w:=by intro args w;rfl
 clear h hz ad l1
 go_enter Tryz.func22,Tryz.ntmps22
 go_wp2
 go_loopw [5,8] (fun _ iv wr=>∃k:Nat,k≤l.length∧iv=.int .i64 k∧Hid (∀i,i<k→(!decide (fltyW (nthX l i).word=0))=false)∧Below w.heap.size w wr) (fun _ iv _=>l.length - (intOf iv).toNat)
 case atStart=>exact ⟨0,Nat.zero_le _,rfl,H0,ex⟩
 case round=>
  clear ex H0
  obtain ⟨k,hk,rfl,HN,ex⟩:=hrel
  by_cases hlt:k<l.length
  case neg=>
   have RE:=zhd (HY.out.2 fun i hi=>HN.out i (by omega))
   clear HY HN
   go_wp2
   go_ret
   exact .mk ex ⟨_,rfl,RE.out⟩
  have qk:=QX.out k hlt
  have bk:=Nat.lt_of_lt_of_le (HBK.out (by omega) (k * 3)) ex.size
  obtain ⟨a1,c1,a2,c2,z1,z2,z3,hw,hv⟩:=(HI.out.ext ex).exec hlt
  have KK:=zhd (zai (va:=a2) (vn:=(nthX l k).vs.length) (vc:=c2) (nthX l k).case hw)
  have HYk:=zhd (HY.out.1 k hlt)
  obtain ⟨b,hb⟩:∃b,b= !decide (fltyW (nthX l k).word=0):=⟨_,rfl⟩
  have HB:=zhd hb
  rw[←hb]at KK HYk
  obtain ⟨y1,hy1⟩:∃y,y=(nthX l k).case:=⟨_,rfl⟩
  obtain ⟨y2,hy2⟩:∃y,y=(nthX l k).word.length:=⟨_,rfl⟩
  obtain ⟨y3,hy3⟩:∃y,y=(nthX l k).vs.length:=⟨_,rfl⟩
  rw[←hy1]at z1 KK
  rw[←hy2]at z2 KK
  rw[←hy3]at z3 KK
  clear hb hy1 hy2 hy3 hw hv
  go_wp2_with fail
  refine KK.out.mono ?_
  rintro _ w1 ⟨_,rfl,hb,rfl⟩
  replace ex:=za ex hb
  clear hb KK qk bk z1 z2 z3
  cases b with
  | true=>
   have RE:=zhd (HYk.out rfl)
   clear HY HYk HN
   go_wp2
   go_ret
   exact .mk ex ⟨_,rfl,RE.out⟩
  | false=>
   have HN2:Hid (∀i,i<k+1→(!decide (fltyW (nthX l i).word=0))=false):=zhd fun i hi=>by
    by_cases e:i=k
    ·rw[e];exact HB.out.symm
    ·exact HN.out i (by omega)
   clear HYk HN
   go_wp2
   go_roundw
   case rel=>exact ⟨k+1,by omega,by go_num,HN2,ex⟩
   case measure=>simp[intOf];omega
theorem zae {S:Nat→Prop} {w:World} {va:Value} {l:List ExecD} (h:Sl kExec S w va l):
  Calls Tryz.prog 7 #[va,.func (.func 8) #[] #[]] w (Post w fun _ r=>r=.bool (fltB l)):=by
 have K:=zhd (zbk h)
 obtain ⟨z,hz⟩:∃z,z=fltB l:=⟨_,rfl⟩
 rw[←hz]at K ⊢
 obtain ⟨a,c,rfl,_⟩:=h.form
 clear h hz
 go_enter Tryz.func7,Tryz.ntmps7
 go_wp2_with fail
 refine K.out.mono ?_
 rintro _ w1 ⟨_,rfl,hb,x,rfl,hx⟩
 have HX:=zhd hx
 clear K hx
 cases z with
 | true=>
  have h0:0≤x:=HX.out.2 rfl
  go_wp2
  go_ret
  exact .mk hb (by simp[h0])
 | false=>
  have h0:¬0≤x:=fun h=>by cases HX.out.1 h
  go_wp2
  go_ret
  exact .mk hb (by simp[h0])
end Go.Proofs.YtjpakklplhabdaaGreat
namespace Go.Proofs.YtjpakklplhabdaaGreat
theorem minF (f:Nat→Bool):∀(n k:Nat),(minT f k n= -1∧∀i,k≤i→i<k+n→f i=false)∨∃t:Nat,minT f k n=t∧k≤t∧t<k+n∧f t=true∧∀i,k≤i→i<t→f i=false
 | 0,k=>.inl ⟨rfl,fun i h1 h2=>by omega⟩
 | n+1,k=>by
  rw[show minT f k (n+1)=if f k then (k:Int) else minT f (k+1) n from rfl]
  cases h:f k with
  | true=>rw[if_pos rfl];exact .inr ⟨k,rfl,Nat.le_refl _,by omega,h,fun i h1 h2=>by omega⟩
  | false=>
   rw[if_neg (by simp)]
   rcases minF f n (k+1) with ⟨h1,h2⟩ | ⟨t,h1,h2,h3,h4,h5⟩
   ·refine .inl ⟨h1,fun i h3 h4=>?_⟩
    by_cases e1:i=k
    ·subst e1;exact h
    ·exact h2 i (by omega) (by omega)
   ·refine .inr ⟨t,h1,by omega,by omega,h4,fun i h6 h7=>?_⟩
    by_cases e1:i=k
    ·subst e1;exact h
    ·exact h5 i (by omega) (by omega)
end Go.Proofs.YtjpakklplhabdaaGreat
namespace Go.Proofs.YtjpakklplhabdaaGreat
open Go.RowKit Go.Shelf
attribute [local go_sem ↓] Go.wp_at_zero Go.wp_at_succ
attribute [local go_sem] Oper.semAt_some
theorem zcR {B base:Nat} {W W':World} {row:Option Nat} {e:TypeId} {v:Value} {n:Nat} {xs:List Value} (h:W.ownsRow base e 1 v n xs) (hg:W.grownBy W' row) (hr:∀r,row=some r→B≤r∧∃o:Obj,W.heap[r]? =some o∧o.isCells=false):W'.ownsRow base e 1 v n xs:=by
 refine zO (S:=fun b=>row≠some b) h (.of_grown hg fun b hb=>hb) (fun k hk e=>?_)
 obtain ⟨_,o,h1,h2⟩:=hr k e
 rcases h.2 with ⟨rfl,_⟩ | ⟨g,cap,cur,rfl,_,hc,_⟩
 ·cases hk
 ·cases hk
  rw[hc]at h1
  cases h1
  cases h2
end Go.Proofs.YtjpakklplhabdaaGreat
namespace Go.Proofs.YtjpakklplhabdaaGreat
open Go.RowKit
attribute [local go_sem ↓] Go.wp_at_zero Go.wp_at_succ
theorem zcz (w:World):(zeroValue 4).run Tryz.prog w=.ok (.bool false) w:=by kernel_rfl
theorem MapV.setRow {K:Type} {B:KeyB Tryz.prog 3 K} {w:World} {b n:Nat} {m:K→Option Value} (h:MapV B w b m n) {g k:Nat} (hg:g≠b) (v:Value):MapV B (w.setCell ⟨g,k,none⟩ v) b m n:=
 h.agree (S:=fun x=>x=b) (.of_grown (zj _ _ _ _) fun x hx=>by subst hx;simpa using hg) rfl
theorem QS {S S2:Nat→Prop} {w:World} {va vb:Value} {l:List Int} {b:List Bool} (h:Ints S w va l) (h2:Sl kBool S2 w vb b) (hl:l.length=b.length) (hm:b.length≤100000):
  Calls Tryz.prog 120 #[va,vb] w (Post w fun w' r=>Sl kBool (fun x=>w.heap.size≤x) w' r (insL l b b.length)):=by
 have hf:∀x∈l,WF x:=by obtain ⟨_,_,_,_,_,_,_,hf⟩:=h;exact hf
 have HWF:=zhd (fun k (hk:k<b.length)=>hf _ (Zv (l:=l) (k:=k) (by omega)))
 obtain ⟨a1,c1,rfl,ad1,_⟩:=h.form
 obtain ⟨a2,c2,rfl,_⟩:=h2.form
 have HA:=zhd h
 have HB:=zhd h2
 have HL:=zhd hl
 have hmm:=@run_makeMap Tryz.prog
 have hx0:=zb w (.map #[] 0)
 have HM0:MapV keyInt (w.alloc (.map #[] 0)) w.heap.size (brkM l b 0) 0:=by rw[zc7];exact MapV.made keyInt w
 have HLE:=zhd (Zj l b b.length)
 have HAT:=zhd (fun k hk=>zc0 (l:=l) (b:=b) (n:=b.length) (i:=k) hk)
 rw[hl]
 obtain ⟨E,hE⟩:∃E,E=insL l b b.length:=⟨_,rfl⟩
 rw[←hE]at HLE HAT ⊢
 clear h h2 hE hl hf ad1
 go_enter Tryz.func120,Tryz.ntmps120
 go_wp2
 go_loopw [6,7,14] (fun _ _ i wr=>∃k n:Nat,k≤b.length∧n≤k∧i=.int .i64 k∧Below w.heap.size w wr∧MapV keyInt wr w.heap.size (brkM l b k) n) (fun _ _ i _=>b.length - (intOf i).toNat)
 case atStart=>exact ⟨0,0,Nat.zero_le _,Nat.le_refl _,rfl,hx0,HM0⟩
 case round=>
  clear hmm hx0 HM0
  obtain ⟨k,n,hk,hn,rfl,ex,HM⟩:=hrel
  by_cases hlt:k<b.length
  case neg=>
   obtain rfl:k=b.length:=by omega
   obtain ⟨wo,hwo⟩:∃wo:World,wo=wr:=⟨_,rfl⟩
   rw[←hwo]at ex HM ⊢
   clear hwo
   have hmk:=run_make_row' 52 4 (.bool false) 1 Tryz.underlying52 qz rfl .i64 .i64 b.length (by omega) (by omega)
   have exo:=zg ex (.cells (madeCells #[Value.bool false] b.length) 4)
   have R0:=Row.madeB wo b.length
   have HM1:=HM.alloc (.cells (madeCells #[Value.bool false] b.length) 4)
   have hlm:=HM.lt
   have H0:Hid (FstB E (List.replicate b.length false) 0):=zhd (FstB.zero (by rw[HLE.out,List.length_replicate]))
   obtain ⟨L0,hL0⟩:∃L0,L0=List.replicate b.length false:=⟨_,rfl⟩
   rw[←hL0]at R0 H0
   obtain ⟨GB,hGB⟩:∃g,g=wo.heap.size:=⟨_,rfl⟩
   obtain ⟨w2,hw2⟩:∃w2,w2=wo.alloc (.cells (madeCells #[Value.bool false] b.length) 4):=⟨_,rfl⟩
   have HG:=zhd hGB
   have HW2:=zhd hw2
   rw[←hw2,←hGB]at R0
   rw[←hw2]at exo HM1
   rw[←hGB]at hlm
   clear hL0 hw2 hGB HM ex
   go_upto_region 9 with fail
   rw[←HW2.out,←HG.out]
   clear HW2 HG hmk
   go_wp2
   go_loopw [9,10,32] (fun _ _ i wr=>∃(k:Nat) (L:List Bool),k≤b.length∧i=.int .i64 k∧Below w.heap.size w wr∧MapV keyInt wr w.heap.size (brkM l b b.length) n∧Row wr GB 4 (L.map Value.bool)∧Hid (FstB E L k)) (fun _ _ i _=>b.length - (intOf i).toNat)
   case atStart=>exact ⟨0,L0,Nat.zero_le _,rfl,exo,HM1,R0,H0⟩
   case round=>
    clear exo HM1 R0 H0
    obtain ⟨k,L,hk,rfl,ex,HM,R,HF⟩:=hrel
    have HLL:L.length=b.length:=HF.out.1.trans HLE.out
    by_cases hlt:k<b.length
    case neg=>
     obtain rfl:k=b.length:=by omega
     have HD:Hid (L=E):=zhd (FstB.done (by rw[HLE.out];exact HF.out))
     have HR:=R.bools (by omega)
     rw[HLL,HD.out]at HR
     clear HF R HM
     go_wp2
     go_ret
     exact .mk ex (HR.mono fun x hx=>by omega)
    have qa:=(HA.out.ext ex).idx (k:=k) (by rw[HL.out];exact hlt)
    rw[HL.out]at qa
    have ca:=(HA.out.ext ex).cellN (k:=k) (by rw[HL.out];exact hlt)
    have ba:=World.block_lt_of_cell? _ _ ca
    have cg:=rowBool R (k:=k) (by omega)
    have fg:=R.free k
    have lg:=R.lt
    have HWk:=zhd (HWF.out k hlt)
    have HLK:=zhd (zct l b b.length (nth l k))
    have HEK:=zhd (HAT.out k hlt)
    obtain ⟨y,hy⟩:∃y,y=nth l k:=⟨_,rfl⟩
    rw[←hy]at HWk HLK HEK ca
    obtain ⟨x,hx⟩:∃x,x=brkB l b b.length y:=⟨_,rfl⟩
    rw[←hx]at HLK HEK
    have HN:Hid (FstB E (L.set k (!x)) (k+1)):=zhd (HF.out.step (by rw[HLE.out];exact hlt) HEK.out.symm)
    have RN:=rowSetB R k (!x)
    have exn:=ex.setCell (p:=⟨GB,k,none⟩) (show w.heap.size≤GB by omega) (.bool (!x))
    have HMN:=HM.setRow (g:=GB) (k:=k) (by omega) (.bool (!x))
    have HMh:=zhd HM
    clear hy hx R ex HF HM HEK
    go_wp2_with (at_lookup;refine zbi rfl _ _ 203 rfl 4 Tryz.underlying203 (.bool false) (zcz _) rfl HMh.out y rfl HWk.out _ HLK.out ?_)
    clear HMh HLK
    go_roundw
    case rel=>exact ⟨k+1,_,by omega,by go_num,exn,HMN,RN,HN⟩
    case measure=>simp[intOf];omega
  have qa:=(HA.out.ext ex).idx (k:=k) (by rw[HL.out];exact hlt)
  rw[HL.out]at qa
  have ca:=(HA.out.ext ex).cellN (k:=k) (by rw[HL.out];exact hlt)
  have ba:=World.block_lt_of_cell? _ _ ca
  have qb:=(HB.out.ext ex).boolIdx hlt
  have cb:=(HB.out.ext ex).boolAt hlt
  have bb:=World.block_lt_of_cell? _ _ cb
  have HWk:=zhd (HWF.out k hlt)
  have HS1:=zhd (zc5 (l:=l) (b:=b) (k:=k))
  have HS2:=zhd (zcD (l:=l) (b:=b) (k:=k))
  have hes:=ex.size
  obtain ⟨y,hy⟩:∃y,y=nth l k:=⟨_,rfl⟩
  rw[←hy]at HWk HS2 ca
  obtain ⟨x,hx⟩:∃x,x=nthB b k:=⟨_,rfl⟩
  rw[←hx]at HS1 HS2 cb
  clear hy hx
  cases x with
  | true=>
   have HM2:=HM
   rw[←HS1.out rfl]at HM2
   clear HS1 HS2 HM
   go_wp2
   go_roundw
   case rel=>exact ⟨k+1,n,by omega,by omega,by go_num,ex,HM2⟩
   case measure=>simp[intOf];omega
  | false=>
   have HMh:=zhd HM
   clear HM HS1
   go_wp2_with (at_mapUpdate;refine zbs rfl _ _ _ 203 rfl 4 Tryz.underlying203 rfl HMh.out (by unfold maxLen;omega) y rfl HWk.out (.bool true) rfl ?_;intro w1 hM1 hg1)
   have ex1:=ex.grown hg1 hes (fun j hj=>by cases hj;exact Nat.le_refl _)
   rw[←HS2.out rfl]at hM1
   have HM1:∃n',n'≤k+1∧MapV keyInt w1 w.heap.size (brkM l b (k+1)) n':=by
    split at hM1
    ·exact ⟨_,by omega,hM1⟩
    ·exact ⟨_,by omega,hM1⟩
   obtain ⟨n',hn',HM1⟩:=HM1
   clear hM1 hg1 HMh HS2 ex qa qb ca cb ba bb
   go_roundw
   case rel=>exact ⟨k+1,n',by omega,hn',by go_num,ex1,HM1⟩
   case measure=>simp[intOf];omega
def WorM (w:World) (g:Nat) (CL:List (List Int)) (M:Nat):Prop:=∃(x0 x1 x2 x3 x4 x5 x6 x7 x8 x9 mv:Value) (la:Option Addr) (lc:Nat),Row w g 117 [x0,x1,x2,x3,x4,x5,x6,x7,x8,x9,.int .i64 (M:Nat),.slice la CL.length lc,mv]∧Lists (fun _=>True) w (.slice la CL.length lc) CL
theorem WorM.ext {w w':World} {g M:Nat} {CL:List (List Int)} (h:WorM w g CL M) (hb:Below w.heap.size w w'):WorM w' g CL M:=by
 obtain ⟨x0,x1,x2,x3,x4,x5,x6,x7,x8,x9,mv,la,lc,R,hL⟩:=h
 exact ⟨x0,x1,x2,x3,x4,x5,x6,x7,x8,x9,mv,la,lc,R.ext hb,hL.ext hb⟩
theorem XH {w:World} {g M:Nat} {CL:List (List Int)} (h:WorM w g CL M) (hM:M≤100000):
  Calls Tryz.prog 51 #[.pointer (some ⟨g,0,none⟩)] w (Post w fun w' r=>Sl kBool (fun x=>w.heap.size≤x) w' r (List.replicate M true)):=by
 obtain ⟨x0,x1,x2,x3,x4,x5,x6,x7,x8,x9,mv,la,lc,R,hL⟩:=h
 have ex:=zb w (.cells #[.bool true] 4)
 have R1:=(R.ext ex).zc 10 rfl
 have l1:=(R.ext ex).lt
 have RB:=ze w [.bool true] 4
 have K:=zhd (YG (RB.zc 0 rfl) (cap:=1) M hM)
 clear hL R RB
 go_enter Tryz.func51,Tryz.ntmps51
 go_wp2_with fail
 refine K.out.mono ?_
 rintro _ w1 ⟨u,rfl,hb,hu⟩
 have HU:=zhd (hu.mono (S':=fun x=>w.heap.size≤x) fun x hx=>by simp only[World.size_alloc]at hx;omega)
 replace ex:=za ex hb
 clear hu hb K R1 l1
 go_wp2
 go_ret
 exact .mk ex HU.out
theorem zah {S:Nat→Prop} {w:World} {g M k:Nat} {CL:List (List Int)} {vb:Value} {b:List Bool} (h:WorM w g CL M) (hb:Sl kBool S w vb b) (hk:k<CL.length) (hl:(nthL CL k).length=b.length) (hm:b.length≤100000):
  Calls Tryz.prog 93 #[.pointer (some ⟨g,0,none⟩),.int .i64 (k:Nat),vb] w (Post w fun w' r=>Sl kBool (fun x=>w.heap.size≤x) w' r (insL (nthL CL k) b b.length)):=by
 obtain ⟨x0,x1,x2,x3,x4,x5,x6,x7,x8,x9,mv,la,lc,R,hL⟩:=h
 obtain ⟨ba,bc,rfl,_⟩:=hb.form
 obtain ⟨_,_,hee,lad,_⟩:=hL.form
 cases hee
 obtain ⟨i0,hi0,hz0,hz1,hz2⟩:=info_parts zF
 have qk:=zz Tryz.underlying47 hi0 hz1 lad k hk
 obtain ⟨u,z4,hu⟩:=hL.at (.refl _ _) hk
 obtain ⟨a4,c4,rfl,_⟩:=hu.form
 have K:=zhd (QS hu hb hl hm)
 have b4:=World.block_lt_of_cell? _ _ z4
 have r11:=R.zc 11 rfl
 have rl:=R.lt
 obtain ⟨n4,hn4⟩:∃n,n=(nthL CL k).length:=⟨_,rfl⟩
 rw[←hn4]at z4 K
 obtain ⟨E,hE⟩:∃E,E=insL (nthL CL k) b b.length:=⟨_,rfl⟩
 rw[←hE]at K ⊢
 obtain ⟨LN,hLN⟩:∃n,n=CL.length:=⟨_,rfl⟩
 rw[←hLN]at r11 qk
 clear hL R hi0 hz0 hz1 hz2 lad hu hb hn4 hE hl hLN hk
 go_enter Tryz.func93,Tryz.ntmps93
 go_wp2_with fail
 refine K.out.mono ?_
 rintro _ w1 ⟨u,rfl,hb,hu⟩
 have HU:=zhd hu
 clear hu K r11 rl b4 z4 qk
 go_wp2
 go_ret
 exact .mk hb HU.out
theorem ZZ {S:Nat→Prop} {w:World} {g M G:Nat} {CL:List (List Int)} {vb:Value} {b:List Bool} (h:WorM w g CL M) (hb:Sl kBool S w vb b) (hl:b.length=M) (hR:∀k,k<CL.length→(nthL CL k).length=M) (hG:∀k,k<CL.length→G.testBit k=true) (hm:M≤100000) (hN:CL.length≤5) (hGs:G<64):
  Calls Tryz.prog 52 #[.pointer (some ⟨g,0,none⟩),.int .i64 (G:Nat),vb] w (Post w fun w' r=>Sl kBool (fun x=>w.heap.size≤x) w' r (evrL (nthL CL) b CL.length)):=by
 have HW:=zhd h
 have HB:=zhd hb
 have KA:Hid (∀W,Below w.heap.size w W→Calls Tryz.prog 51 #[.pointer (some ⟨g,0,none⟩)] W (Post W fun w' r=>Sl kBool (fun x=>W.heap.size≤x) w' r (evrL (nthL CL) b 0))):=zhd fun W hW=>by
  have:=XH (h.ext hW) hm
  rw[←hl]at this
  exact this
 have KK:Hid (∀W,Below w.heap.size w W→∀k,k<CL.length→Calls Tryz.prog 93 #[.pointer (some ⟨g,0,none⟩),.int .i64 (k:Nat),vb] W (Post W fun w' r=>Sl kBool (fun x=>W.heap.size≤x) w' r (insL (nthL CL k) b b.length))):=zhd fun W hW k hk=>zah (h.ext hW) (hb.ext hW) hk (by rw[hR k hk,hl]) (by omega)
 have KB:Hid (∀W (S1 S2:Nat→Prop) v1 v2 k,Sl kBool S1 W v1 (evrL (nthL CL) b k)→Sl kBool S2 W v2 (insL (nthL CL k) b b.length)→Calls Tryz.prog 53 #[v1,v2] W (Post W fun w' r=>Sl kBool (fun x=>W.heap.size≤x) w' r (evrL (nthL CL) b (k+1)))):=zhd fun W S1 S2 v1 v2 k h1 h2=>by
  have:=Z5 h1 h2 (by rw[Zj,X0]) (by rw[X0];omega)
  rw[X0]at this
  exact this
 have HG:Hid (∀k,k<CL.length→(bits .and .i64 ((G:Int) / 2 ^ k) 1==1)=true):=zhd fun k hk=>by rw[zaH,hG k hk]
 obtain ⟨x0,x1,x2,x3,x4,x5,x6,x7,x8,x9,mv,la,lc,R,hL⟩:=h
 obtain ⟨ba,bc,rfl,_⟩:=hb.form
 have HRW:Hid (∀W,Below w.heap.size w W→Row W g 117 [x0,x1,x2,x3,x4,x5,x6,x7,x8,x9,.int .i64 (M:Nat),.slice la CL.length lc,mv]):=zhd fun W hW=>R.ext hW
 obtain ⟨N,hNN⟩:∃N,N=CL.length:=⟨_,rfl⟩
 rw[←hNN]at KK HG HRW R hN ⊢
 have ex:=Below.refl w.heap.size w
 have r11:=R.zc 11 rfl
 have rl:=R.lt
 clear hb hL hR hG hl hNN R HW HB
 go_enter Tryz.func52,Tryz.ntmps52
 go_wp2_with fail
 refine (KA.out _ ex).mono ?_
 rintro _ w1 ⟨u,rfl,hb,hu⟩
 replace ex:=za ex hb
 have HU:=zhd (hu.mono (S':=fun x=>w.heap.size≤x) fun x hx=>hx)
 clear hu hb KA r11 rl
 have r11:=(HRW.out _ ex).zc 11 rfl
 have rl:=(HRW.out _ ex).lt
 go_wp2
 clear r11 rl
 go_loopw [7,8,16] (fun v7 _ i wr=>∃k:Nat,k≤N∧i=.int .i64 k∧Below w.heap.size w wr∧Hid (Sl kBool (fun x=>w.heap.size≤x) wr v7 (evrL (nthL CL) b k))) (fun _ _ i _=>N - (intOf i).toNat)
 case atStart=>exact ⟨0,Nat.zero_le _,rfl,ex,HU⟩
 case round=>
  clear ex HU
  obtain ⟨k,hk,rfl,ex,HU⟩:=hrel
  by_cases hlt:k<N
  case neg=>
   obtain rfl:k=N:=by omega
   go_wp2
   go_ret
   exact .mk ex HU.out
  have HGk:=HG.out k hlt
  have r11:=(HRW.out _ ex).zc 11 rfl
  have rl:=(HRW.out _ ex).lt
  have KKk:=zhd (KK.out _ ex k hlt)
  have hes:=ex.size
  go_wp2_with fail
  refine KKk.out.mono ?_
  rintro _ w2 ⟨u2,rfl,hb,hu2⟩
  have KBk:=zhd (KB.out _ _ _ _ _ k (HU.out.ext hb) hu2)
  replace ex:=za ex hb
  have hbs:=hb.size
  clear hb hu2 HU KKk r11 rl
  go_wp2_with fail
  refine KBk.out.mono ?_
  rintro _ w3 ⟨u3,rfl,hb,hu3⟩
  have HU3:=zhd (hu3.mono (S':=fun x=>w.heap.size≤x) fun x hx=>by omega)
  replace ex:=za ex hb
  clear hb hu3 KBk HGk
  go_wp2
  go_roundw
  case rel=>exact ⟨k+1,by omega,by go_num,ex,HU3⟩
  case measure=>simp[intOf];omega
theorem Xy {S:Nat→Prop} {w:World} {g M G:Nat} {CL:List (List Int)} {vb:Value} {b:List Bool} (h:WorM w g CL M) (hb:Sl kBool S w vb b) (hl:b.length=M) (hR:∀k,k<CL.length→(nthL CL k).length=M) (hG:∀k,k<CL.length→G.testBit k=true) (hm:M≤100000) (hN:CL.length≤5) (hGs:G<64) (hN0:0<CL.length)
  (hc:∀q i j,q<CL.length→i<b.length→j<b.length→nth (nthL CL q) i=nth (nthL CL q) j→nthB b i=true→nthB b j=true):
  Calls Tryz.prog 27 #[.pointer (some ⟨g,0,none⟩),.int .i64 (G:Nat),vb] w (Post w fun w' r=>∃(v:Value) (n:Int),r=.tuple #[v,.int .i64 n]∧Sl kBool (fun x=>w.heap.size≤x) w' v b):=by
 have KA:Hid (∀W,Below w.heap.size w W→Calls Tryz.prog 51 #[.pointer (some ⟨g,0,none⟩)] W (Post W fun w' r=>Sl kBool (fun x=>W.heap.size≤x) w' r (List.replicate b.length true))):=zhd fun W hW=>by
  have:=XH (h.ext hW) hm
  rw[←hl]at this
  exact this
 have KB:Hid (∀W (S2:Nat→Prop) v2 now,Below w.heap.size w W→Sl kBool S2 W v2 now→now.length=b.length→Calls Tryz.prog 53 #[vb,v2] W (Post W fun w' r=>Sl kBool (fun x=>W.heap.size≤x) w' r (botL b now b.length))):=zhd fun W S2 v2 now hW h2 hl2=>Z5 (hb.ext hW) h2 hl2 (by omega)
 have KE:Hid (∀W (S2:Nat→Prop) v2 now,Below w.heap.size w W→Sl kBool S2 W v2 (botL b now b.length)→evrL (nthL CL) (botL b now b.length) CL.length=b→Calls Tryz.prog 52 #[.pointer (some ⟨g,0,none⟩),.int .i64 (G:Nat),v2] W (Post W fun w' r=>Sl kBool (fun x=>W.heap.size≤x) w' r b)):=zhd fun W S2 v2 now hW h2 h3=>by
  have:=ZZ (h.ext hW) h2 (by rw[yv];exact hl) hR hG hm hN hGs
  rw[h3]at this
  exact this
 have HC0:=zhd (zcY hN0 hc)
 have HC1:=zhd (zdq hN0 hc)
 have HLA:Hid ((List.replicate b.length true).length=b.length):=zhd List.length_replicate
 obtain ⟨ba,bc,rfl,_⟩:=hb.form
 have ex:=Below.refl w.heap.size w
 clear h hb hR hG hc hl
 go_enter Tryz.func27,Tryz.ntmps27
 go_wp2_with fail
 refine (KA.out _ ex).mono ?_
 rintro _ w1 ⟨u,rfl,hb,hu⟩
 replace ex:=za ex hb
 have HU:=zhd hu
 obtain ⟨now0,hn0⟩:∃now,now=List.replicate b.length true:=⟨_,rfl⟩
 rw[←hn0]at HU HC0 HLA
 clear hu hb KA hn0
 go_wp2
 go_loopw [8,9,10] (fun v8 cv _ wr=>∃(j:Nat) (now:List Bool),j≤1∧cv=.int .i64 j∧Below w.heap.size w wr∧Hid (Sl kBool (fun x=>w.heap.size≤x) wr v8 now)∧Hid (now.length=b.length)∧Hid (evrL (nthL CL) (botL b now b.length) CL.length=b)∧Hid (j=0∨now=b)) (fun _ cv _ _=>2 - (intOf cv).toNat)
 case atStart=>exact ⟨0,now0,by omega,rfl,ex,HU,HLA,HC0,zhd (.inl rfl)⟩
 case round=>
  clear ex HU HLA HC0 now0
  obtain ⟨j,now,hj,rfl,ex,HU,HLA,HC0,H00⟩:=hrel
  have KBk:=zhd (KB.out _ _ _ _ ex HU.out HLA.out)
  have hes:=ex.size
  go_wp2_with fail
  refine KBk.out.mono ?_
  rintro _ w2 ⟨u2,rfl,hb,hu2⟩
  replace ex:=za ex hb
  replace HU:=zhd (HU.out.ext hb)
  have KEk:=zhd (KE.out _ _ _ _ ex hu2 HC0.out)
  have hbs:=hb.size
  clear hb hu2 KBk
  go_wp2_with fail
  refine KEk.out.mono ?_
  rintro _ w3 ⟨u3,rfl,hb,hu3⟩
  replace ex:=za ex hb
  replace HU:=zhd (HU.out.ext hb)
  have hbt:=hb.size
  have HU3:=zhd (hu3.mono (S':=fun x=>w.heap.size≤x) fun x hx=>by omega)
  have KQ:=zhd (xR hu3 HU.out HLA.out)
  have HZ:Hid ((decide (b=now)=true→now=b)∧(decide (b=now)=false→j=0)):=zhd ⟨fun h=>(of_decide_eq_true h).symm,fun h=>by
   rcases H00.out with h1 | h1
   ·exact h1
   ·exact absurd h1.symm (of_decide_eq_false h)⟩
  obtain ⟨z,hz⟩:∃z,z=decide (b=now):=⟨_,rfl⟩
  rw[←hz]at KQ HZ
  clear hb hu3 KEk hz
  go_wp2_with fail
  refine KQ.out.mono ?_
  rintro _ w4 ⟨_,rfl,hb,rfl⟩
  replace ex:=za ex hb
  replace HU:=zhd (HU.out.ext hb)
  replace HU3:=zhd (HU3.out.ext hb)
  clear hb KQ
  cases z with
  | true=>
   have hn:=HZ.out.1 rfl
   rw[hn]at HU
   clear hn HZ HLA HC0 H00
   go_wp2
   go_ret2
   exact .mk ex ⟨_,_,rfl,HU.out⟩
  | false=>
   have hn:=HZ.out.2 rfl
   subst hn
   clear HZ HLA HC0 H00 HU
   go_wp2
   go_roundw
   case rel=>exact ⟨1,b,by omega,by go_num,ex,HU3,zhd rfl,HC1,zhd (.inr rfl)⟩
   case measure=>simp[intOf]
end Go.Proofs.YtjpakklplhabdaaGreat
