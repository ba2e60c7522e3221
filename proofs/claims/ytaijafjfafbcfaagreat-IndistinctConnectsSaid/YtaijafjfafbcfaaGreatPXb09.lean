/- Part of the proof that the laws answer true for every input. -/
import Derived.Test.YtaijafjfafbcfaaGreatPXb08
import Derived.StillTailTactics
set_option linter.unusedSimpArgs false
set_option linter.unnecessarySimpa false
set_option linter.unusedVariables false
set_option maxRecDepth 100000
set_option maxHeartbeats 40000000
namespace Go.Proofs.YtaijafjfafbcfaaGreat
open Go.RowKit
attribute [local go_sem ↓] Go.wp_at_zero Go.wp_at_succ
theorem tvectors_calls {S:Nat→Prop} {w:World} {v1 v2 v3 x:Value} {c:CaseD} (n ins outs:Int) (hin:Ints S w v1 c.inn) (hou:Lists S w v2 c.out) (hca:Lists S w v3 c.calm):
  Calls Tryz.prog 131 #[.agg #[.int .i64 n,.int .i64 ins,.int .i64 outs,x],.agg #[v1,v2,v3]] w (Post w fun _ r=>r=.int .i64 (vecsE n outs c)):=by
 have HVR:=Lib.hid (vecsR n outs c)
 obtain ⟨r,hr⟩:∃r,r=vecsE n outs c:=⟨_,rfl⟩
 rw[←hr]at HVR ⊢
 obtain ⟨inn,hinn⟩:∃x,x=c.inn:=⟨_,rfl⟩
 obtain ⟨ol,hol⟩:∃x,x=c.out:=⟨_,rfl⟩
 obtain ⟨cl,hcl⟩:∃x,x=c.calm:=⟨_,rfl⟩
 rw[←hinn]at hin
 rw[←hol]at hou HVR
 rw[←hcl]at hca HVR
 obtain ⟨i0,hi,hz0,hz1,hz2⟩:=info_parts info_ints
 obtain ⟨a1,c1,rfl,_⟩:=hin.form
 obtain ⟨a2,c2,rfl,ad2,lo2,lm2⟩:=hou.form
 obtain ⟨a3,c3,rfl,ad3,lo3,lm3⟩:=hca.form
 unfold maxLen at lm2 lm3
 have Q2:=Lib.hid (idx_one Tryz.underlying79 hi hz1 ad2)
 have Q3:=Lib.hid (idx_one Tryz.underlying79 hi hz1 ad3)
 have HOU:=Lib.hid hou
 have HCA:=Lib.hid hca
 clear hr hinn hol hcl hin hou hca hi hz0 hz1 hz2 ad2 ad3
 obtain ⟨hbx,RT,RC⟩:=case_box w (.slice a1 inn.length c1) (.slice a2 ol.length c2) (.slice a3 cl.length c3) (.int .i64 n) (.int .i64 ins) (.int .i64 outs) x
 have BX:Hid (Below w.heap.size w ((w.alloc (.cells #[.int .i64 n,.int .i64 ins,.int .i64 outs,x] 24)).alloc (.cells #[.slice a1 inn.length c1,.slice a2 ol.length c2,.slice a3 cl.length c3] 123))):=Lib.hid hbx
 by_cases hm:ol.length<1
 ·have RR:=Lib.hid (HVR.out.many (.inl hm))
  go_enter Tryz.func131,Tryz.ntmps131
  go_wp2
  go_ret
  exact .mk hbx (int_eq RR.out.symm)
 by_cases hm2:1024<ol.length
 ·have RR:=Lib.hid (HVR.out.many (.inr hm2))
  go_enter Tryz.func131,Tryz.ntmps131
  go_wp2
  go_ret
  exact .mk hbx (int_eq RR.out.symm)
 have HM:=Lib.hid (show¬(ol.length<1∨1024<ol.length) by omega)
 go_enter Tryz.func131,Tryz.ntmps131
 go_wp2
 go_loopw [5,6,23] (fun _ _ i wr=>∃j:Nat,j≤ol.length∧i=.int .i64 j∧Below w.heap.size w wr∧Row wr w.heap.size 24 [.int .i64 n,.int .i64 ins,.int .i64 outs,x]∧Row wr (w.heap.size+1) 123 [.slice a1 inn.length c1,.slice a2 ol.length c2,.slice a3 cl.length c3]∧Hid (Zeros (outE n outs ol) j)) (fun _ _ i _=>ol.length - (intOf i).toNat)
 case atStart=>exact ⟨0,Nat.zero_le _,rfl,hbx,RT,RC,Lib.hid (.zero _)⟩
 case round=>
  clear hbx RT RC BX
  obtain ⟨j,hj,rfl,hb,RT,RC,HZ⟩:=hrel
  have t0:=RT.cell (j:=0) rfl
  have t2:=RT.cell (j:=2) rfl
  have k1:=RC.cell (j:=1) rfl
  have k2:=RC.cell (j:=2) rfl
  by_cases hlt:j<ol.length
  ·have q:=Q2.out j hlt
   obtain ⟨u,cu,iu⟩:=HOU.out.at hb hlt
   have KV:=Lib.hid (tvector_calls iu n outs)
   obtain ⟨e,he⟩:∃e,e=vecE (nthL ol j) n outs:=⟨_,rfl⟩
   rw[←he]at KV
   have HE:=Lib.hid he.symm
   clear he iu
   go_wp2_with fail
   refine KV.out.mono ?_
   rintro _ w1 ⟨_,rfl,hb1,rfl⟩
   have hb2:=ext_trans hb hb1
   have RT1:=RT.ext hb1
   have RC1:=RC.ext hb1
   clear t0 t2 k1 k2 KV cu q
   by_cases h0:e=0
   ·subst h0
    have KU:=Lib.hid ((unordered_q (HOU.out.ext hb2) hlt).mono fun _ _ h=>h.take)
    obtain ⟨b,hbb⟩:∃b,b=unord ol j:=⟨_,rfl⟩
    rw[←hbb]at KU
    have HB:=Lib.hid hbb.symm
    clear hbb
    have k1:=RC1.cell (j:=1) rfl
    go_wp2_with fail
    refine KU.out.mono ?_
    rintro _ w2 ⟨_,rfl,hq2,rfl⟩
    have hb3:=ext_trans hb2 hq2.ext
    clear k1 KU
    cases b with
    | true=>
     have RR:=Lib.hid (HVR.out.out HM.out 14 j HZ.out (outE_un HE.out HB.out) (by decide) hlt)
     go_wp2
     go_ret
     exact .mk hb3 (int_eq RR.out.symm)
    | false=>
     have HZ2:=Lib.hid (HZ.out.next (outE_ok HE.out HB.out))
     have RT2:=RT1.ext hq2.ext
     have RC2:=RC1.ext hq2.ext
     go_wp2
     go_roundw
     case rel=>exact ⟨j+1,by omega,by go_num,hb3,RT2,RC2,HZ2⟩
     case measure=>simp[intOf];omega
   ·have RR:=Lib.hid (HVR.out.out HM.out e j HZ.out (outE_bad HE.out h0) h0 hlt)
    have d0:(e !=0)=true:=by simp[h0]
    clear h0
    go_wp2
    go_ret
    exact .mk hb2 (int_eq RR.out.symm)
  ·obtain rfl:j=ol.length:=by omega
   have HZO:=Lib.hid HZ.out
   clear hlt HZ
   go_wp2
   clear t0 t2 k1 k2
   go_loopw [8,9,45] (fun _ _ i wr=>∃j:Nat,j≤cl.length∧i=.int .i64 j∧Below w.heap.size w wr∧Row wr (w.heap.size+1) 123 [.slice a1 inn.length c1,.slice a2 ol.length c2,.slice a3 cl.length c3]∧Hid (Zeros (calmE ol cl) j)) (fun _ _ i _=>cl.length - (intOf i).toNat)
   case atStart=>exact ⟨0,Nat.zero_le _,rfl,hb,RC,Lib.hid (.zero _)⟩
   case round=>
    clear hb RC RT
    obtain ⟨j,hj,rfl,hb,RC,HZ⟩:=hrel
    have k1:=RC.cell (j:=1) rfl
    have k2:=RC.cell (j:=2) rfl
    by_cases hlt:j<cl.length
    ·have q:=Q3.out j hlt
     obtain ⟨u,cu,iu⟩:=HCA.out.at hb hlt
     have KV:=Lib.hid (thas_calls (HOU.out.ext hb) iu)
     obtain ⟨b,he⟩:∃e,e=decide (nthL cl j∈ol):=⟨_,rfl⟩
     rw[←he]at KV
     have HE:=Lib.hid he.symm
     clear he iu
     go_wp2_with fail
     refine KV.out.mono ?_
     rintro _ w1 ⟨_,rfl,hb1,rfl⟩
     have hb2:=ext_trans hb hb1
     have RC1:=RC.ext hb1
     clear k1 k2 KV cu q
     cases b with
     | false=>
      have RR:=Lib.hid (HVR.out.calm HM.out HZO.out 6 j HZ.out (calmE_bad HE.out) (by decide) hlt)
      go_wp2
      go_ret
      exact .mk hb2 (int_eq RR.out.symm)
     | true=>
      have KU:=Lib.hid ((unordered_q (HCA.out.ext hb2) hlt).mono fun _ _ h=>h.take)
      obtain ⟨b,hbb⟩:∃b,b=unord cl j:=⟨_,rfl⟩
      rw[←hbb]at KU
      have HB:=Lib.hid hbb.symm
      clear hbb
      have k2:=RC1.cell (j:=2) rfl
      go_wp2_with fail
      refine KU.out.mono ?_
      rintro _ w2 ⟨_,rfl,hq2,rfl⟩
      have hb3:=ext_trans hb2 hq2.ext
      clear k2 KU
      cases b with
      | true=>
       have RR:=Lib.hid (HVR.out.calm HM.out HZO.out 14 j HZ.out (calmE_un HE.out HB.out) (by decide) hlt)
       go_wp2
       go_ret
       exact .mk hb3 (int_eq RR.out.symm)
      | false=>
       have HZ2:=Lib.hid (HZ.out.next (calmE_ok HE.out HB.out))
       have RC2:=RC1.ext hq2.ext
       go_wp2
       go_roundw
       case rel=>exact ⟨j+1,by omega,by go_num,hb3,RC2,HZ2⟩
       case measure=>simp[intOf];omega
    ·obtain rfl:j=cl.length:=by omega
     have RR:=Lib.hid (HVR.out.fine HM.out HZO.out HZ.out)
     go_wp2
     go_ret
     exact .mk hb (int_eq RR.out.symm)
theorem pcheckT_calls {S:Nat→Prop} {w:World} {vc:Value} {l:List CaseD} (n ins outs:Int) (hv:Sl kCase S w vc l):
  Calls Tryz.prog 118 #[.agg #[.int .i64 n,.int .i64 ins,.int .i64 outs,vc]] w (Post w fun _ r=>r=.int .i64 (checkT n ins outs l)):=by
 have HTR:=Lib.hid (taskR n ins outs l)
 obtain ⟨r,hr⟩:∃r,r=checkT n ins outs l:=⟨_,rfl⟩
 rw[←hr]at HTR ⊢
 have HV:=Lib.hid hv
 obtain ⟨ca,cc,rfl,cad,lo,lm⟩:=hv.form
 unfold maxLen at lm
 clear hr hv
 have ex:=ext_alloc w (.cells #[.int .i64 n,.int .i64 ins,.int .i64 outs,.slice ca l.length cc] 24)
 have RT:Row (w.alloc (.cells #[.int .i64 n,.int .i64 ins,.int .i64 outs,.slice ca l.length cc] 24)) w.heap.size 24 [.int .i64 n,.int .i64 ins,.int .i64 outs,.slice ca l.length cc]:=row_new w [_,_,_,_] _
 by_cases g0:n<1
 ·have RR:=Lib.hid (HTR.out.range (by omega))
  go_enter Tryz.func118,Tryz.ntmps118
  go_wp2
  go_ret
  exact .mk ex (int_eq RR.out.symm)
 by_cases g1:5<n
 ·have RR:=Lib.hid (HTR.out.range (by omega))
  go_enter Tryz.func118,Tryz.ntmps118
  go_wp2
  go_ret
  exact .mk ex (int_eq RR.out.symm)
 by_cases g2:ins<1
 ·have RR:=Lib.hid (HTR.out.range (by omega))
  go_enter Tryz.func118,Tryz.ntmps118
  go_wp2
  go_ret
  exact .mk ex (int_eq RR.out.symm)
 by_cases g3:8<ins
 ·have RR:=Lib.hid (HTR.out.range (by omega))
  go_enter Tryz.func118,Tryz.ntmps118
  go_wp2
  go_ret
  exact .mk ex (int_eq RR.out.symm)
 by_cases g4:outs<1
 ·have RR:=Lib.hid (HTR.out.range (by omega))
  go_enter Tryz.func118,Tryz.ntmps118
  go_wp2
  go_ret
  exact .mk ex (int_eq RR.out.symm)
 by_cases g5:8<outs
 ·have RR:=Lib.hid (HTR.out.range (by omega))
  go_enter Tryz.func118,Tryz.ntmps118
  go_wp2
  go_ret
  exact .mk ex (int_eq RR.out.symm)
 have HN:=Lib.hid (show¬(n<1∨5<n∨ins<1∨8<ins∨outs<1∨8<outs) by omega)
 by_cases m0:l.length<1
 ·have RR:=Lib.hid (HTR.out.many HN.out (.inl m0))
  go_enter Tryz.func118,Tryz.ntmps118
  go_wp2
  go_ret
  exact .mk ex (int_eq RR.out.symm)
 by_cases m1:1024<l.length
 ·have RR:=Lib.hid (HTR.out.many HN.out (.inr m1))
  go_enter Tryz.func118,Tryz.ntmps118
  go_wp2
  go_ret
  exact .mk ex (int_eq RR.out.symm)
 have HM:=Lib.hid (show¬(l.length<1∨1024<l.length) by omega)
 go_enter Tryz.func118,Tryz.ntmps118
 go_wp2
 clear g0 g1 g2 g3 g4 g5 m0
 have HRC:=Lib.hid fun k=>caseR n ins outs l k
 obtain ⟨ic,hic,hic1⟩:=info_size (T:=123) (z:=3) (by kernel_rfl)
 have QC:=Lib.hid (idx_wide Tryz.underlying22 hic hic1 cad)
 have HBK:Hid (0<l.length→∀j,(adr ca j).block<w.heap.size):=Lib.hid fun h j=>adr_blk cad h j
 clear hic hic1 cad
 go_loopw [3,46] (fun _ i wr=>∃k:Nat,k≤l.length∧i=.int .i64 k∧Below w.heap.size w wr∧Row wr w.heap.size 24 [.int .i64 n,.int .i64 ins,.int .i64 outs,.slice ca l.length cc]∧Hid (Zeros (caseE n ins outs l) k)) (fun _ i _=>l.length - (intOf i).toNat)
 case atStart=>exact ⟨0,Nat.zero_le _,rfl,ex,RT,Lib.hid (.zero _)⟩
 case round=>
  clear ex RT
  obtain ⟨k,hk,rfl,hb,R,HZ⟩:=hrel
  by_cases hlt:k<l.length
  ·have t0:=R.cell (j:=0) rfl
   have t1:=R.cell (j:=1) rfl
   have t2:=R.cell (j:=2) rfl
   have t3:=R.cell (j:=3) rfl
   have tl:=R.lt
   have qk:=QC.out k hlt
   have hbk:=Nat.lt_of_lt_of_le (HBK.out (by omega) (k * 3)) hb.size
   obtain ⟨v1,v2,v3,kc1,kc2,kc3,hin,hou,hca⟩:=(HV.out.ext hb).case hlt
   obtain ⟨a1,c1,rfl,_⟩:=hin.form
   obtain ⟨a2,c2,rfl,_⟩:=hou.form
   obtain ⟨a3,c3,rfl,_⟩:=hca.form
   have HIN:=Lib.hid hin
   have HOU:=Lib.hid hou
   have HCA:=Lib.hid hca
   have HR:=Lib.hid (HRC.out k)
   obtain ⟨inn,hinn⟩:∃x,x=(nthC l k).inn:=⟨_,rfl⟩
   obtain ⟨on,hon⟩:∃x,x=(nthC l k).out.length:=⟨_,rfl⟩
   obtain ⟨cn,hcn⟩:∃x,x=(nthC l k).calm.length:=⟨_,rfl⟩
   have HINN:=Lib.hid hinn
   rw[←hinn]at HIN kc1
   rw[←hon]at HOU kc2
   rw[←hcn]at HCA kc3
   have exb:=ext_alloc wr (.cells #[.slice a1 inn.length c1,.slice a2 on c2,.slice a3 cn c3] 123)
   have RC:Row (wr.alloc (.cells #[.slice a1 inn.length c1,.slice a2 on c2,.slice a3 cn c3] 123)) wr.heap.size 123 [.slice a1 inn.length c1,.slice a2 on c2,.slice a3 cn c3]:=row_new wr [_,_,_] _
   have RT:=R.alloc (.cells #[.slice a1 inn.length c1,.slice a2 on c2,.slice a3 cn c3] 123)
   have KV:=Lib.hid fun W (hW:Below wr.heap.size wr W)=>tvector_calls (HIN.out.ext hW) n ins
   obtain ⟨e,he⟩:∃e,e=vecE inn n ins:=⟨_,rfl⟩
   rw[←he]at KV
   have HE:Hid (vecE (nthC l k).inn n ins=e):=Lib.hid (by rw[he,HINN.out])
   obtain ⟨g,hg⟩:∃g,g=wr.heap.size:=⟨_,rfl⟩
   have HG:=Lib.hid hg
   clear he hinn hon hcn hin hou hca
   go_wp2_with fail
   refine (KV.out _ exb).mono ?_
   rintro _ w1 ⟨_,rfl,hb1,rfl⟩
   have hx1:=ext_trans exb hb1
   have hbel1:=ext_trans hb hx1
   have RT1:=RT.ext hb1
   have RC1:=RC.ext hb1
   rw[←hg]at RC1 ⊢
   clear t0 t1 t2 t3 tl qk hbk kc1 kc2 kc3 KV RT RC exb hb1 R hg
   by_cases h0:e=0
   case neg=>
    have RR:=Lib.hid (HTR.out.stop HN.out HM.out e k HZ.out (HR.out.bad e HE.out h0) h0 hlt)
    have d0:(e !=0)=true:=by simp[h0]
    clear h0
    go_wp2
    go_ret
    exact .mk hbel1 (int_eq RR.out.symm)
   subst h0
   have REST:Hid (¬(0<k∧∀j,j=k - 1→0≤ordL (nthC l j).inn inn)→caseE n ins outs l k=vecsE n outs (nthC l k)):=Lib.hid fun h=>HR.out.rest HE.out fun hk0 j hj hle=>h ⟨hk0,fun j' hj'=>by subst hj hj';rw[HINN.out];exact hle⟩
   by_cases hk0:0<k
   case pos=>
    obtain ⟨j,hj⟩:∃j,j=k - 1:=⟨_,rfl⟩
    have hjl:j<l.length:=by omega
    have q1:=QC.out j hjl
    obtain ⟨u,_,_,cu1,_,_,iu1,_⟩:=(HV.out.ext hbel1).case hjl
    have KO:Hid (∀m,Calls Tryz.prog 130 #[u,.slice a1 inn.length c1] (w1.drewN m) (QuietP (w1.drewN m) (.int .i64 (ordL (nthC l j).inn inn)))):=Lib.hid fun m=>scmp_q (iu1.drewN m) ((HIN.out.ext hx1).drewN m)
    obtain ⟨c,hc⟩:∃c,c=ordL (nthC l j).inn inn:=⟨_,rfl⟩
    rw[←hc]at KO
    have w1':IntKind.i64.wrap ((k:Int) - 1)=j:=by rw[IntKind.wrap_i64];omega
    have w2':decide ((0:Int)<(k:Int))=true:=decide_eq_true (by omega)
    have w3':decide (0<k)=true:=decide_eq_true hk0
    have w4':(0:Int)≤(j:Int):=by omega
    have w5':(j:Int)<(l.length:Int):=by omega
    have HUN:Hid (0≤c→caseE n ins outs l k=14):=Lib.hid fun h=>HR.out.un HE.out hk0 j hj (by rw[←HINN.out,←hc];exact h)
    have HRE:Hid (¬0≤c→caseE n ins outs l k=vecsE n outs (nthC l k)):=Lib.hid fun h=>REST.out fun h'=>h (by rw[hc];exact h'.2 j hj)
    have t3:=RT1.cell (j:=3) rfl
    have k0:=RC1.cell (j:=0) rfl
    clear hc hj iu1
    by_cases hc0:0≤c
    case pos=>
     have RR:=Lib.hid (HTR.out.stop HN.out HM.out 14 k HZ.out (HUN.out hc0) (by decide) hlt)
     go_wp2
     go_quiet ((go_at_call 130;exact quiet_calls (KO.out _)))
     go_wp2
     go_ret
     exact .mk (ext_drewN hbel1 _) (int_eq RR.out.symm)
    have RV:=Lib.hid (HRE.out hc0)
    go_wp2
    go_quiet ((go_at_call 130;exact quiet_calls (KO.out _)))
    refine draw_then fun w2 hq2=>?_
    clear q1 cu1 KO w1' w4' w5' t3 k0 HUN HRE REST
    have RT2:=RT1.ext hq2.ext
    have RC2:=RC1.ext hq2.ext
    have hx2:=ext_trans hx1 hq2.ext
    have hbel2:=ext_trans hbel1 hq2.ext
    have t0:=RT2.cell (j:=0) rfl
    have t1:=RT2.cell (j:=1) rfl
    have t2:=RT2.cell (j:=2) rfl
    have t3:=RT2.cell (j:=3) rfl
    have k0:=RC2.cell (j:=0) rfl
    have k1:=RC2.cell (j:=1) rfl
    have k2:=RC2.cell (j:=2) rfl
    have KW:Hid (Calls Tryz.prog 131 #[.agg #[.int .i64 n,.int .i64 ins,.int .i64 outs,.slice ca l.length cc],.agg #[.slice a1 inn.length c1,.slice a2 on c2,.slice a3 cn c3]] w2 (Post w2 fun _ r=>r=.int .i64 (vecsE n outs (nthC l k)))):=Lib.hid (tvectors_calls n ins outs (by rw[←HINN.out];exact HIN.out.ext hx2) (HOU.out.ext hx2) (HCA.out.ext hx2))
    rw[←RV.out]at KW
    obtain ⟨e,he⟩:∃e,e=caseE n ins outs l k:=⟨_,rfl⟩
    rw[←he]at KW
    have HE2:=Lib.hid he.symm
    clear he RV
    go_wp2_with fail
    refine KW.out.mono ?_
    rintro _ w3 ⟨_,rfl,hb3,rfl⟩
    have hbel3:=ext_trans hbel2 hb3
    clear t0 t1 t2 t3 k0 k1 k2 KW
    by_cases h0:e=0
    ·subst h0
     have HZ2:=Lib.hid (HZ.out.next HE2.out)
     have RT3:=RT2.ext hb3
     go_wp2
     go_roundw
     case rel=>exact ⟨k+1,by omega,by go_num,hbel3,RT3,HZ2⟩
     case measure=>simp[intOf];omega
    ·have RR:=Lib.hid (HTR.out.stop HN.out HM.out e k HZ.out HE2.out h0 hlt)
     have d0:(e !=0)=true:=by simp[h0]
     clear h0
     go_wp2
     go_ret
     exact .mk hbel3 (int_eq RR.out.symm)
   case neg=>
    obtain rfl:k=0:=by omega
    have RV:=Lib.hid (REST.out fun h=>by omega)
    have w2':decide ((0:Int)<((0:Nat):Int))=false:=by simp
    go_wp2
    go_quiet (fail)
    refine draw_then fun w2 hq2=>?_
    clear REST
    have RT2:=RT1.ext hq2.ext
    have RC2:=RC1.ext hq2.ext
    have hx2:=ext_trans hx1 hq2.ext
    have hbel2:=ext_trans hbel1 hq2.ext
    have t0:=RT2.cell (j:=0) rfl
    have t1:=RT2.cell (j:=1) rfl
    have t2:=RT2.cell (j:=2) rfl
    have t3:=RT2.cell (j:=3) rfl
    have k0:=RC2.cell (j:=0) rfl
    have k1:=RC2.cell (j:=1) rfl
    have k2:=RC2.cell (j:=2) rfl
    have KW:Hid (Calls Tryz.prog 131 #[.agg #[.int .i64 n,.int .i64 ins,.int .i64 outs,.slice ca l.length cc],.agg #[.slice a1 inn.length c1,.slice a2 on c2,.slice a3 cn c3]] w2 (Post w2 fun _ r=>r=.int .i64 (vecsE n outs (nthC l 0)))):=Lib.hid (tvectors_calls n ins outs (by rw[←HINN.out];exact HIN.out.ext hx2) (HOU.out.ext hx2) (HCA.out.ext hx2))
    rw[←RV.out]at KW
    obtain ⟨e,he⟩:∃e,e=caseE n ins outs l 0:=⟨_,rfl⟩
    rw[←he]at KW
    have HE2:=Lib.hid he.symm
    clear he RV
    go_wp2_with fail
    refine KW.out.mono ?_
    rintro _ w3 ⟨_,rfl,hb3,rfl⟩
    have hbel3:=ext_trans hbel2 hb3
    clear t0 t1 t2 t3 k0 k1 k2 KW
    by_cases h0:e=0
    ·subst h0
     have HZ2:=Lib.hid (HZ.out.next HE2.out)
     have RT3:=RT2.ext hb3
     go_wp2
     go_roundw
     case rel=>exact ⟨0+1,by omega,by go_num,hbel3,RT3,HZ2⟩
     case measure=>simp[intOf];omega
    ·have RR:=Lib.hid (HTR.out.stop HN.out HM.out e 0 HZ.out HE2.out h0 hlt)
     have d0:(e !=0)=true:=by simp[h0]
     clear h0
     go_wp2
     go_ret
     exact .mk hbel3 (int_eq RR.out.symm)
  ·obtain rfl:k=l.length:=by omega
   have RR:=Lib.hid (HTR.out.fine HN.out HM.out HZ.out)
   go_wp2
   go_ret
   exact .mk hb (int_eq RR.out.symm)
end Go.Proofs.YtaijafjfafbcfaaGreat
namespace Go.Proofs.YtaijafjfafbcfaaGreat
open Go.RowKit
attribute [local go_sem ↓] Go.wp_at_zero Go.wp_at_succ
theorem draw_list {P:Program} {ops:Array Oper} {Q:Exit→Act→World→Prop} {rest:List Oper} {a:Act} {w:World} (h:∀w',QW w w'→wpList P ops Q rest a w'):wpList P ops Q rest a w.drew:=h _ ⟨1,rfl⟩
theorem info_move:∃i,Tryz.prog.info? 121=some i∧i.size=8:=info_size (by kernel_rfl)
theorem info_mrow:(Tryz.prog.info? 114).map (fun i=>(i.zero,i.size,i.bytes))=some (some (.slice none 0 0),1,24):=by kernel_rfl
theorem Sl.idxM {S:Nat→Prop} {w:World} {a:Option Addr} {m cap:Nat} {l:List (List Int)} (h:Sl (kFlat 8) S w (.slice a m cap) l):
  Hid (∀k:Nat,k<l.length→∀W:World,(Instr.indexAt 114 (.slice a l.length cap) (.int .i64 k)).run Tryz.prog W=.ok (.pointer (some (adr a (k * 8)))) W):=by
 obtain ⟨i,hi,h1⟩:=info_move
 exact Lib.hid (idx_wide Tryz.underlying114 hi h1 h.ad.1)
theorem Sl.idxS {S:Nat→Prop} {w:World} {a:Option Addr} {m cap:Nat} {st:Moves} (h:Sl (kSl (kFlat 8)) S w (.slice a m cap) st):
  Hid (∀k:Nat,k<st.length→∀W:World,(Instr.indexAt 25 (.slice a st.length cap) (.int .i64 k)).run Tryz.prog W=.ok (.pointer (some (adr a k))) W):=by
 obtain ⟨i,hi,_,h1,_⟩:=info_parts info_mrow
 exact Lib.hid (idx_one Tryz.underlying25 hi h1 h.ad.1)
theorem Sl.mrow {S:Nat→Prop} {w W:World} {a:Option Addr} {m cap:Nat} {st:Moves} (h:Sl (kSl (kFlat 8)) S w (.slice a m cap) st) (hb:Below w.heap.size w W) {k:Nat} (hk:k<st.length):
  ∃b c,W.cell? (adr a k)=some (.slice b (nthM st k).length c)∧Sl (kFlat 8) S W (.slice b (nthM st k).length c) (nthM st k):=by
 obtain ⟨v,h1,h2⟩:=(h.ext hb).row hk
 have e:nthM st k=st[k]:=by simp[nthM,hk]
 rw[←e]at h2
 obtain ⟨b,c,rfl,_⟩:=h2.form
 exact ⟨b,c,h1,h2⟩
structure MoveR (n:Int) (ns:Nat) (l:List (List Int)) (i:Nat) (r:Int):Prop where
 bad:∀e,checkR (nthL l i)=e→e≠0→r=e
 mis:checkR (nthL l i)=0→nth (nthL l i) 0≠n→r=22
 un:checkR (nthL l i)=0→nth (nthL l i) 0=n→0<i→∀j,j=i - 1→0≤lexN (nthL l j) (nthL l i) 7→r=14
 to:checkR (nthL l i)=0→nth (nthL l i) 0=n→(0<i→∀j,j=i - 1→lexN (nthL l j) (nthL l i) 7<0)→(nth (nthL l i) 7<0∨(ns:Int)≤nth (nthL l i) 7)→r=2
 fine:checkR (nthL l i)=0→nth (nthL l i) 0=n→(0<i→∀j,j=i - 1→lexN (nthL l j) (nthL l i) 7<0)→¬(nth (nthL l i) 7<0∨(ns:Int)≤nth (nthL l i) 7)→r=0
theorem moveR (n:Int) (ns:Nat) (l:List (List Int)) (i:Nat):MoveR n ns l i (moveE n ns l i):=by
 refine ⟨fun e he h0=>?_,fun he h=>?_,fun he h hi j hj hle=>?_,fun he h hu ht=>?_,fun he h hu ht=>?_⟩
 ·unfold moveE;rw[he,if_neg h0]
 ·unfold moveE;rw[he,if_pos rfl,if_pos h]
 ·subst hj;unfold moveE;rw[he,if_pos rfl,if_neg (fun h'=>h' h)];simp[hi,hle]
 all_goals
  have hd:(decide (0<i)&&decide (0≤lexN (nthL l (i - 1)) (nthL l i) 7))=false:=by
   by_cases hi:0<i
   ·have:=hu hi _ rfl;simp;intro _;omega
   ·simp[hi]
  unfold moveE;rw[he,if_pos rfl,if_neg (fun h'=>h' h),hd]
  simp[ht]
theorem rmove_calls {S S':Nat→Prop} {w:World} {vs vl:Value} {st:Moves} {l:List (List Int)} (n:Int) (hs:Sl (kSl (kFlat 8)) S' w vs st) (hv:Sl (kFlat 8) S w vl l) {i:Nat} (hi:i<l.length):
  Calls Tryz.prog 106 #[.agg #[.int .i64 n,vs],vl,.int .i64 i] w (Post w fun _ r=>r=.int .i64 (moveE n st.length l i)):=by
 have HMR:=Lib.hid (moveR n st.length l i)
 obtain ⟨r,hr⟩:∃r,r=moveE n st.length l i:=⟨_,rfl⟩
 rw[←hr]at HMR ⊢
 obtain ⟨sa,sc,rfl,_⟩:=hs.form
 obtain ⟨a,cap,rfl,ad,lo,lm⟩:=hv.form
 unfold maxLen at lm
 have HV:=Lib.hid hv
 have Q:=hv.idxM
 have hz:=hv.nums hi (by decide)
 have z0:=hz.1
 have z1:=hz.2 1 (by decide)
 have z2:=hz.2 2 (by decide)
 have z3:=hz.2 3 (by decide)
 have z4:=hz.2 4 (by decide)
 have z5:=hz.2 5 (by decide)
 have z6:=hz.2 6 (by decide)
 have hbk:=adr_blk ad (show 0<l.length by omega) (i * 8)
 have q:=Q.out i hi
 obtain ⟨m,hm⟩:∃m,m=nthL l i:=⟨_,rfl⟩
 have HM:=Lib.hid hm
 rw[←hm]at z0 z1 z2 z3 z4 z5 z6
 have KR:Hid (∀W,Calls Tryz.prog 124 #[.agg #[.int .i64 (nth m 0),.int .i64 (nth m 1),.int .i64 (nth m 2),.int .i64 (nth m 3),.int .i64 (nth m 4),.int .i64 (nth m 5),.int .i64 (nth m 6)]] W (Post W fun _ r=>r=.int .i64 (checkR m))):=Lib.hid fun W=>rcheckR_calls W m
 obtain ⟨e,he⟩:∃e,e=checkR m:=⟨_,rfl⟩
 rw[←he]at KR
 have HE:Hid (checkR (nthL l i)=e):=Lib.hid (by rw[he,hm])
 have exb:=ext_alloc' (ext_alloc w (.cells #[.int .i64 n,.slice sa st.length sc] 27)) (.cells #[.int .i64 (nth m 0),.int .i64 (nth m 1),.int .i64 (nth m 2),.int .i64 (nth m 3),.int .i64 (nth m 4),.int .i64 (nth m 5),.int .i64 (nth m 6)] 119)
 have RA:Row ((w.alloc (.cells #[.int .i64 n,.slice sa st.length sc] 27)).alloc (.cells #[.int .i64 (nth m 0),.int .i64 (nth m 1),.int .i64 (nth m 2),.int .i64 (nth m 3),.int .i64 (nth m 4),.int .i64 (nth m 5),.int .i64 (nth m 6)] 119)) w.heap.size 27 [.int .i64 n,.slice sa st.length sc]:=(row_new w [_,_] _).alloc _
 have RM:Row ((w.alloc (.cells #[.int .i64 n,.slice sa st.length sc] 27)).alloc (.cells #[.int .i64 (nth m 0),.int .i64 (nth m 1),.int .i64 (nth m 2),.int .i64 (nth m 3),.int .i64 (nth m 4),.int .i64 (nth m 5),.int .i64 (nth m 6)] 119)) (w.heap.size+1) 119 [.int .i64 (nth m 0),.int .i64 (nth m 1),.int .i64 (nth m 2),.int .i64 (nth m 3),.int .i64 (nth m 4),.int .i64 (nth m 5),.int .i64 (nth m 6)]:=by
  have:=row_new (w.alloc (.cells #[.int .i64 n,.slice sa st.length sc] 27)) [.int .i64 (nth m 0),.int .i64 (nth m 1),.int .i64 (nth m 2),.int .i64 (nth m 3),.int .i64 (nth m 4),.int .i64 (nth m 5),.int .i64 (nth m 6)] 119
  rwa [World.size_alloc]at this
 clear hr hs hv hz hm he ad
 go_enter Tryz.func106,Tryz.ntmps106
 go_wp2_with fail
 refine (KR.out _).mono ?_
 rintro _ w1 ⟨_,rfl,hb1,rfl⟩
 have RA1:=RA.ext hb1
 have RM1:=RM.ext hb1
 have hx1:=ext_trans exb hb1
 clear z0 z1 z2 z3 z4 z5 z6 q hbk KR RA RM exb hb1
 by_cases h0:e=0
 case neg=>
  have RR:=Lib.hid (HMR.out.bad e HE.out h0)
  have d0:(e !=0)=true:=by simp[h0]
  clear h0
  go_wp2
  go_ret
  exact .mk hx1 (int_eq RR.out.symm)
 subst h0
 have t0:=RA1.cell (j:=0) rfl
 have m0:=RM1.cell (j:=0) rfl
 obtain ⟨mn,hmn⟩:∃x,x=nth m 0:=⟨_,rfl⟩
 rw[←hmn]at m0
 have HMN:Hid (nth (nthL l i) 0=mn):=Lib.hid (by rw[hmn,HM.out])
 clear hmn
 by_cases hn:mn=n
 case neg=>
  have RR:=Lib.hid (HMR.out.mis HE.out (by rw[HMN.out];exact hn))
  have d0:(mn !=n)=true:=by simp[hn]
  clear hn
  go_wp2
  go_ret
  exact .mk hx1 (int_eq RR.out.symm)
 have d0:(mn !=n)=false:=by simp[hn]
 have HN:Hid (nth (nthL l i) 0=n):=Lib.hid (by rw[HMN.out,hn])
 clear hn
 by_cases hi0:0<i
 case pos=>
  obtain ⟨j,hj⟩:∃j,j=i - 1:=⟨_,rfl⟩
  have hjl:j<l.length:=by omega
  have q1:=Q.out j hjl
  have hz:=(HV.out.ext hx1).nums hjl (by decide)
  have z0:=hz.1
  have z1:=hz.2 1 (by decide)
  have z2:=hz.2 2 (by decide)
  have z3:=hz.2 3 (by decide)
  have z4:=hz.2 4 (by decide)
  have z5:=hz.2 5 (by decide)
  have z6:=hz.2 6 (by decide)
  obtain ⟨m',hm'⟩:∃m,m=nthL l j:=⟨_,rfl⟩
  rw[←hm']at z0 z1 z2 z3 z4 z5 z6
  have KO:Hid (∀W,Calls Tryz.prog 125 #[.agg #[.int .i64 (nth m' 0),.int .i64 (nth m' 1),.int .i64 (nth m' 2),.int .i64 (nth m' 3),.int .i64 (nth m' 4),.int .i64 (nth m' 5),.int .i64 (nth m' 6)],.agg #[.int .i64 (nth m 0),.int .i64 (nth m 1),.int .i64 (nth m 2),.int .i64 (nth m 3),.int .i64 (nth m 4),.int .i64 (nth m 5),.int .i64 (nth m 6)]] W (Post W fun _ r=>r=.int .i64 (lexN m' m 7))):=Lib.hid fun W=>rcmpR_calls W m' m
  obtain ⟨c,hc⟩:∃c,c=lexN m' m 7:=⟨_,rfl⟩
  rw[←hc]at KO
  have w1':IntKind.i64.wrap ((i:Int) - 1)=j:=by rw[IntKind.wrap_i64];omega
  have w2':decide ((0:Int)<(i:Int))=true:=decide_eq_true (by omega)
  have w3':decide (0<i)=true:=decide_eq_true hi0
  have w4':(0:Int)≤(j:Int):=by omega
  have w5':(j:Int)<(l.length:Int):=by omega
  have HUN:Hid (0≤c→r=14):=Lib.hid fun h=>HMR.out.un HE.out HN.out hi0 j hj (by rw[←hm',←HM.out,←hc];exact h)
  have HFI:Hid (c<0→(0<i→∀j,j=i - 1→lexN (nthL l j) (nthL l i) 7<0)):=Lib.hid fun h _ j2 hj2=>by
   subst hj2;rw[←hj,←hm',←HM.out,←hc];exact h
  clear hc hj hz hm'
  go_wp2
  clear m0
  have m0:=RM1.cell (j:=0) rfl
  have m1:=RM1.cell (j:=1) rfl
  have m2:=RM1.cell (j:=2) rfl
  have m3:=RM1.cell (j:=3) rfl
  have m4:=RM1.cell (j:=4) rfl
  have m5:=RM1.cell (j:=5) rfl
  have m6:=RM1.cell (j:=6) rfl
  go_still_tail 10,(by kernel_rfl)
  refine draw_list fun w2 hq2=>?_
  clear q1 z0 z1 z2 z3 z4 z5 z6 m0 m1 m2 m3 m4 m5 m6 t0 w1' w4' w5'
  go_wp2_with fail
  refine (KO.out _).mono ?_
  rintro _ w3 ⟨_,rfl,hb3,rfl⟩
  have hq3:=ext_trans hq2.ext hb3
  have hx3:=ext_trans hx1 hq3
  have RA3:=RA1.ext hq3
  clear KO hb3
  by_cases hc0:0≤c
  ·have RR:=Lib.hid (HUN.out hc0)
   go_wp2
   go_ret
   exact .mk hx3 (int_eq RR.out.symm)
  have HF:=Lib.hid (HFI.out (by omega))
  have t1:=RA3.cell (j:=1) rfl
  have q:=Q.out i hi
  have z7:=((HV.out.ext hx3).nums hi (by decide)).2 7 (by decide)
  obtain ⟨to,hto⟩:∃x,x=nth (nthL l i) 7:=⟨_,rfl⟩
  rw[←hto]at z7
  have HTO:=Lib.hid hto.symm
  have w6':(0:Int)≤(i:Int):=by omega
  have w7':(i:Int)<(l.length:Int):=by omega
  clear hto
  by_cases ht1:to<0
  ·have RR:=Lib.hid (HMR.out.to HE.out HN.out HF.out (.inl (by rw[HTO.out];exact ht1)))
   have dt:decide (to<0)=true:=decide_eq_true ht1
   go_wp2
   go_quiet (fail)
   go_wp2
   go_ret
   exact .mk (ext_drewN hx3 _) (int_eq RR.out.symm)
  have dt:decide (to<0)=false:=decide_eq_false ht1
  by_cases ht2:(st.length:Int)≤to
  ·have RR:=Lib.hid (HMR.out.to HE.out HN.out HF.out (.inr (by rw[HTO.out];exact ht2)))
   go_wp2
   go_quiet (fail)
   go_wp2
   go_ret
   exact .mk (ext_drewN hx3 _) (int_eq RR.out.symm)
  ·have RR:=Lib.hid (HMR.out.fine HE.out HN.out HF.out (by rw[HTO.out];omega))
   go_wp2
   go_quiet (fail)
   go_wp2
   go_ret
   exact .mk (ext_drewN hx3 _) (int_eq RR.out.symm)
 case neg=>
  have HF:Hid (0<i→∀j,j=i - 1→lexN (nthL l j) (nthL l i) 7<0):=Lib.hid fun h=>by omega
  have w2':decide ((0:Int)<(i:Int))=false:=decide_eq_false (by omega)
  have w3':decide (0<i)=false:=decide_eq_false hi0
  go_wp2
  go_quiet (fail)
  refine draw_then fun w3 hq3'=>?_
  have hq3:=hq3'.ext
  have hx3:=ext_trans hx1 hq3
  have RA3:=RA1.ext hq3
  clear t0 m0
  have t1:=RA3.cell (j:=1) rfl
  have q:=Q.out i hi
  have z7:=((HV.out.ext hx3).nums hi (by decide)).2 7 (by decide)
  obtain ⟨to,hto⟩:∃x,x=nth (nthL l i) 7:=⟨_,rfl⟩
  rw[←hto]at z7
  have HTO:=Lib.hid hto.symm
  have w6':(0:Int)≤(i:Int):=by omega
  have w7':(i:Int)<(l.length:Int):=by omega
  clear hto
  by_cases ht1:to<0
  ·have RR:=Lib.hid (HMR.out.to HE.out HN.out HF.out (.inl (by rw[HTO.out];exact ht1)))
   have dt:decide (to<0)=true:=decide_eq_true ht1
   go_wp2
   go_quiet (fail)
   go_wp2
   go_ret
   exact .mk (ext_drewN hx3 _) (int_eq RR.out.symm)
  have dt:decide (to<0)=false:=decide_eq_false ht1
  by_cases ht2:(st.length:Int)≤to
  ·have RR:=Lib.hid (HMR.out.to HE.out HN.out HF.out (.inr (by rw[HTO.out];exact ht2)))
   go_wp2
   go_quiet (fail)
   go_wp2
   go_ret
   exact .mk (ext_drewN hx3 _) (int_eq RR.out.symm)
  ·have RR:=Lib.hid (HMR.out.fine HE.out HN.out HF.out (by rw[HTO.out];omega))
   go_wp2
   go_quiet (fail)
   go_wp2
   go_ret
   exact .mk (ext_drewN hx3 _) (int_eq RR.out.symm)
end Go.Proofs.YtaijafjfafbcfaaGreat
