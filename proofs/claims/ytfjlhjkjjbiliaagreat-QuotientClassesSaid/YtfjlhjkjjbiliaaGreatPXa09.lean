/- Part of the proof that the laws answer true for every input. -/
import Derived.Test.YtfjlhjkjjbiliaaGreatPXa07
set_option linter.unusedSimpArgs false
set_option linter.unnecessarySimpa false
set_option linter.unusedVariables false
set_option maxRecDepth 100000
set_option maxHeartbeats 40000000
namespace Go.Proofs.YtfjlhjkjjbiliaaGreat
open Go.RowKit
attribute [local go_sem ↓] Go.wp_at_zero Go.wp_at_succ
theorem xH {S:Nat→Prop} {w:World} {v1 v2 v3 x:Value} {c:CaseD} (n ins outs:Int) (hin:Ints S w v1 c.inn) (hou:Lists S w v2 c.out) (hca:Lists S w v3 c.calm):
  Calls Tryz.prog 131 #[.agg #[.int .i64 n,.int .i64 ins,.int .i64 outs,x],.agg #[v1,v2,v3]] w (Post w fun _ r=>r=.int .i64 (vecsE n outs c)):=by
 have HVR:=zhd (vecsR n outs c)
 obtain ⟨r,hr⟩:∃r,r=vecsE n outs c:=⟨_,rfl⟩
 rw[←hr]at HVR ⊢
 obtain ⟨inn,hinn⟩:∃x,x=c.inn:=⟨_,rfl⟩
 obtain ⟨ol,hol⟩:∃x,x=c.out:=⟨_,rfl⟩
 obtain ⟨cl,hcl⟩:∃x,x=c.calm:=⟨_,rfl⟩
 rw[←hinn]at hin
 rw[←hol]at hou HVR
 rw[←hcl]at hca HVR
 obtain ⟨i0,hi,hz0,hz1,hz2⟩:=info_parts zK
 obtain ⟨a1,c1,rfl,_⟩:=hin.form
 obtain ⟨a2,c2,rfl,ad2,lo2,lm2⟩:=hou.form
 obtain ⟨a3,c3,rfl,ad3,lo3,lm3⟩:=hca.form
 unfold maxLen at lm2 lm3
 have Q2:=zhd (zz Tryz.underlying109 hi hz1 ad2)
 have Q3:=zhd (zz Tryz.underlying109 hi hz1 ad3)
 have HOU:=zhd hou
 have HCA:=zhd hca
 clear hr hinn hol hcl hin hou hca hi hz0 hz1 hz2 ad2 ad3
 obtain ⟨hbx,RT,RC⟩:=zcd w (.slice a1 inn.length c1) (.slice a2 ol.length c2) (.slice a3 cl.length c3) (.int .i64 n) (.int .i64 ins) (.int .i64 outs) x
 have BX:Hid (Below w.heap.size w ((w.alloc (.cells #[.int .i64 n,.int .i64 ins,.int .i64 outs,x] 24)).alloc (.cells #[.slice a1 inn.length c1,.slice a2 ol.length c2,.slice a3 cl.length c3] 120))):=zhd hbx
 by_cases hm:ol.length<1
 ·have RR:=zhd (HVR.out.many (.inl hm))
  go_enter Tryz.func131,Tryz.ntmps131
  go_wp2
  go_ret
  exact .mk hbx (zk RR.out.symm)
 by_cases hm2:1024<ol.length
 ·have RR:=zhd (HVR.out.many (.inr hm2))
  go_enter Tryz.func131,Tryz.ntmps131
  go_wp2
  go_ret
  exact .mk hbx (zk RR.out.symm)
 have HM:=zhd (show¬(ol.length<1∨1024<ol.length) by omega)
 go_enter Tryz.func131,Tryz.ntmps131
 go_wp2
 go_loopw [5,6,23] (fun _ _ i wr=>∃j:Nat,j≤ol.length∧i=.int .i64 j∧Below w.heap.size w wr∧Row wr w.heap.size 24 [.int .i64 n,.int .i64 ins,.int .i64 outs,x]∧Row wr (w.heap.size+1) 120 [.slice a1 inn.length c1,.slice a2 ol.length c2,.slice a3 cl.length c3]∧Hid (Zeros (outE n outs ol) j)) (fun _ _ i _=>ol.length - (intOf i).toNat)
 case atStart=>exact ⟨0,Nat.zero_le _,rfl,hbx,RT,RC,zhd (.zero _)⟩
 case round=>
  clear hbx RT RC BX
  obtain ⟨j,hj,rfl,hb,RT,RC,HZ⟩:=hrel
  have t0:=RT.zc 0 rfl
  have t2:=RT.zc 2 rfl
  have k1:=RC.zc 1 rfl
  have k2:=RC.zc 2 rfl
  by_cases hlt:j<ol.length
  ·have q:=Q2.out j hlt
   obtain ⟨u,cu,iu⟩:=HOU.out.at hb hlt
   have KV:=zhd (Zr iu n outs)
   obtain ⟨e,he⟩:∃e,e=vecE (nthL ol j) n outs:=⟨_,rfl⟩
   rw[←he]at KV
   have HE:=zhd he.symm
   clear he iu
   go_wp2_with fail
   refine KV.out.mono ?_
   rintro _ w1 ⟨_,rfl,hb1,rfl⟩
   have hb2:=zb hb hb1
   have RT1:=RT.ext hb1
   have RC1:=RC.ext hb1
   clear t0 t2 k1 k2 KV cu q
   by_cases h0:e=0
   ·subst h0
    have KU:=zhd ((YQ (HOU.out.ext hb2) hlt).mono fun _ _ h=>h.take)
    obtain ⟨b,hbb⟩:∃b,b=unord ol j:=⟨_,rfl⟩
    rw[←hbb]at KU
    have HB:=zhd hbb.symm
    clear hbb
    have k1:=RC1.zc 1 rfl
    go_wp2_with fail
    refine KU.out.mono ?_
    rintro _ w2 ⟨_,rfl,hq2,rfl⟩
    have hb3:=zb hb2 hq2.ext
    clear k1 KU
    cases b with
    | true=>
     have RR:=zhd (HVR.out.out HM.out 14 j HZ.out (zbf HE.out HB.out) (by decide) hlt)
     go_wp2
     go_ret
     exact .mk hb3 (zk RR.out.symm)
    | false=>
     have HZ2:=zhd (HZ.out.next (Yl HE.out HB.out))
     have RT2:=RT1.ext hq2.ext
     have RC2:=RC1.ext hq2.ext
     go_wp2
     go_roundw
     case rel=>exact ⟨j+1,by omega,by go_num,hb3,RT2,RC2,HZ2⟩
     case measure=>simp[intOf];omega
   ·have RR:=zhd (HVR.out.out HM.out e j HZ.out (Xn HE.out h0) h0 hlt)
    have d0:(e !=0)=true:=by simp[h0]
    clear h0
    go_wp2
    go_ret
    exact .mk hb2 (zk RR.out.symm)
  ·obtain rfl:j=ol.length:=by omega
   have HZO:=zhd HZ.out
   clear hlt HZ
   go_wp2
   clear t0 t2 k1 k2
   go_loopw [8,9,45] (fun _ _ i wr=>∃j:Nat,j≤cl.length∧i=.int .i64 j∧Below w.heap.size w wr∧Row wr (w.heap.size+1) 120 [.slice a1 inn.length c1,.slice a2 ol.length c2,.slice a3 cl.length c3]∧Hid (Zeros (calmE ol cl) j)) (fun _ _ i _=>cl.length - (intOf i).toNat)
   case atStart=>exact ⟨0,Nat.zero_le _,rfl,hb,RC,zhd (.zero _)⟩
   case round=>
    clear hb RC RT
    obtain ⟨j,hj,rfl,hb,RC,HZ⟩:=hrel
    have k1:=RC.zc 1 rfl
    have k2:=RC.zc 2 rfl
    by_cases hlt:j<cl.length
    ·have q:=Q3.out j hlt
     obtain ⟨u,cu,iu⟩:=HCA.out.at hb hlt
     have KV:=zhd (zcA (HOU.out.ext hb) iu)
     obtain ⟨b,he⟩:∃e,e=decide (nthL cl j∈ol):=⟨_,rfl⟩
     rw[←he]at KV
     have HE:=zhd he.symm
     clear he iu
     go_wp2_with fail
     refine KV.out.mono ?_
     rintro _ w1 ⟨_,rfl,hb1,rfl⟩
     have hb2:=zb hb hb1
     have RC1:=RC.ext hb1
     clear k1 k2 KV cu q
     cases b with
     | false=>
      have RR:=zhd (HVR.out.calm HM.out HZO.out 6 j HZ.out (YI HE.out) (by decide) hlt)
      go_wp2
      go_ret
      exact .mk hb2 (zk RR.out.symm)
     | true=>
      have KU:=zhd ((YQ (HCA.out.ext hb2) hlt).mono fun _ _ h=>h.take)
      obtain ⟨b,hbb⟩:∃b,b=unord cl j:=⟨_,rfl⟩
      rw[←hbb]at KU
      have HB:=zhd hbb.symm
      clear hbb
      have k2:=RC1.zc 2 rfl
      go_wp2_with fail
      refine KU.out.mono ?_
      rintro _ w2 ⟨_,rfl,hq2,rfl⟩
      have hb3:=zb hb2 hq2.ext
      clear k2 KU
      cases b with
      | true=>
       have RR:=zhd (HVR.out.calm HM.out HZO.out 14 j HZ.out (Xv HE.out HB.out) (by decide) hlt)
       go_wp2
       go_ret
       exact .mk hb3 (zk RR.out.symm)
      | false=>
       have HZ2:=zhd (HZ.out.next (Zc HE.out HB.out))
       have RC2:=RC1.ext hq2.ext
       go_wp2
       go_roundw
       case rel=>exact ⟨j+1,by omega,by go_num,hb3,RC2,HZ2⟩
       case measure=>simp[intOf];omega
    ·obtain rfl:j=cl.length:=by omega
     have RR:=zhd (HVR.out.fine HM.out HZO.out HZ.out)
     go_wp2
     go_ret
     exact .mk hb (zk RR.out.symm)
theorem QI {S:Nat→Prop} {w:World} {vc:Value} {l:List CaseD} (n ins outs:Int) (hv:Sl kCase S w vc l):
  Calls Tryz.prog 116 #[.agg #[.int .i64 n,.int .i64 ins,.int .i64 outs,vc]] w (Post w fun _ r=>r=.int .i64 (checkT n ins outs l)):=by
 have HTR:=zhd (taskR n ins outs l)
 obtain ⟨r,hr⟩:∃r,r=checkT n ins outs l:=⟨_,rfl⟩
 rw[←hr]at HTR ⊢
 have HV:=zhd hv
 obtain ⟨ca,cc,rfl,cad,lo,lm⟩:=hv.form
 unfold maxLen at lm
 clear hr hv
 have ex:=ze w (.cells #[.int .i64 n,.int .i64 ins,.int .i64 outs,.slice ca l.length cc] 24)
 have RT:Row (w.alloc (.cells #[.int .i64 n,.int .i64 ins,.int .i64 outs,.slice ca l.length cc] 24)) w.heap.size 24 [.int .i64 n,.int .i64 ins,.int .i64 outs,.slice ca l.length cc]:=zh w [_,_,_,_] _
 by_cases g0:n<1
 ·have RR:=zhd (HTR.out.range (by omega))
  go_enter Tryz.func116,Tryz.ntmps116
  go_wp2
  go_ret
  exact .mk ex (zk RR.out.symm)
 by_cases g1:5<n
 ·have RR:=zhd (HTR.out.range (by omega))
  go_enter Tryz.func116,Tryz.ntmps116
  go_wp2
  go_ret
  exact .mk ex (zk RR.out.symm)
 by_cases g2:ins<1
 ·have RR:=zhd (HTR.out.range (by omega))
  go_enter Tryz.func116,Tryz.ntmps116
  go_wp2
  go_ret
  exact .mk ex (zk RR.out.symm)
 by_cases g3:8<ins
 ·have RR:=zhd (HTR.out.range (by omega))
  go_enter Tryz.func116,Tryz.ntmps116
  go_wp2
  go_ret
  exact .mk ex (zk RR.out.symm)
 by_cases g4:outs<1
 ·have RR:=zhd (HTR.out.range (by omega))
  go_enter Tryz.func116,Tryz.ntmps116
  go_wp2
  go_ret
  exact .mk ex (zk RR.out.symm)
 by_cases g5:8<outs
 ·have RR:=zhd (HTR.out.range (by omega))
  go_enter Tryz.func116,Tryz.ntmps116
  go_wp2
  go_ret
  exact .mk ex (zk RR.out.symm)
 have HN:=zhd (show¬(n<1∨5<n∨ins<1∨8<ins∨outs<1∨8<outs) by omega)
 by_cases m0:l.length<1
 ·have RR:=zhd (HTR.out.many HN.out (.inl m0))
  go_enter Tryz.func116,Tryz.ntmps116
  go_wp2
  go_ret
  exact .mk ex (zk RR.out.symm)
 by_cases m1:1024<l.length
 ·have RR:=zhd (HTR.out.many HN.out (.inr m1))
  go_enter Tryz.func116,Tryz.ntmps116
  go_wp2
  go_ret
  exact .mk ex (zk RR.out.symm)
 have HM:=zhd (show¬(l.length<1∨1024<l.length) by omega)
 go_enter Tryz.func116,Tryz.ntmps116
 go_wp2
 clear g0 g1 g2 g3 g4 g5 m0
 have HRC:=zhd fun k=>caseR n ins outs l k
 obtain ⟨ic,hic,hic1⟩:=zE (T:=120) (z:=3) (by kernel_rfl)
 have QC:=zhd (zC Tryz.underlying22 hic hic1 cad)
 have HBK:Hid (0<l.length→∀j,(adr ca j).block<w.heap.size):=zhd fun h j=>zO cad h j
 clear hic hic1 cad
 go_loopw [3,46] (fun _ i wr=>∃k:Nat,k≤l.length∧i=.int .i64 k∧Below w.heap.size w wr∧Row wr w.heap.size 24 [.int .i64 n,.int .i64 ins,.int .i64 outs,.slice ca l.length cc]∧Hid (Zeros (caseE n ins outs l) k)) (fun _ i _=>l.length - (intOf i).toNat)
 case atStart=>exact ⟨0,Nat.zero_le _,rfl,ex,RT,zhd (.zero _)⟩
 case round=>
  clear ex RT
  obtain ⟨k,hk,rfl,hb,R,HZ⟩:=hrel
  by_cases hlt:k<l.length
  ·have t0:=R.zc 0 rfl
   have t1:=R.zc 1 rfl
   have t2:=R.zc 2 rfl
   have t3:=R.zc 3 rfl
   have tl:=R.lt
   have qk:=QC.out k hlt
   have hbk:=Nat.lt_of_lt_of_le (HBK.out (by omega) (k * 3)) hb.size
   obtain ⟨v1,v2,v3,kc1,kc2,kc3,hin,hou,hca⟩:=(HV.out.ext hb).case hlt
   obtain ⟨a1,c1,rfl,_⟩:=hin.form
   obtain ⟨a2,c2,rfl,_⟩:=hou.form
   obtain ⟨a3,c3,rfl,_⟩:=hca.form
   have HIN:=zhd hin
   have HOU:=zhd hou
   have HCA:=zhd hca
   have HR:=zhd (HRC.out k)
   obtain ⟨inn,hinn⟩:∃x,x=(nthC l k).inn:=⟨_,rfl⟩
   obtain ⟨on,hon⟩:∃x,x=(nthC l k).out.length:=⟨_,rfl⟩
   obtain ⟨cn,hcn⟩:∃x,x=(nthC l k).calm.length:=⟨_,rfl⟩
   have HINN:=zhd hinn
   rw[←hinn]at HIN kc1
   rw[←hon]at HOU kc2
   rw[←hcn]at HCA kc3
   have exb:=ze wr (.cells #[.slice a1 inn.length c1,.slice a2 on c2,.slice a3 cn c3] 120)
   have RC:Row (wr.alloc (.cells #[.slice a1 inn.length c1,.slice a2 on c2,.slice a3 cn c3] 120)) wr.heap.size 120 [.slice a1 inn.length c1,.slice a2 on c2,.slice a3 cn c3]:=zh wr [_,_,_] _
   have RT:=R.alloc (.cells #[.slice a1 inn.length c1,.slice a2 on c2,.slice a3 cn c3] 120)
   have KV:=zhd fun W (hW:Below wr.heap.size wr W)=>Zr (HIN.out.ext hW) n ins
   obtain ⟨e,he⟩:∃e,e=vecE inn n ins:=⟨_,rfl⟩
   rw[←he]at KV
   have HE:Hid (vecE (nthC l k).inn n ins=e):=zhd (by rw[he,HINN.out])
   obtain ⟨g,hg⟩:∃g,g=wr.heap.size:=⟨_,rfl⟩
   have HG:=zhd hg
   clear he hinn hon hcn hin hou hca
   go_wp2_with fail
   refine (KV.out _ exb).mono ?_
   rintro _ w1 ⟨_,rfl,hb1,rfl⟩
   have hx1:=zb exb hb1
   have hbel1:=zb hb hx1
   have RT1:=RT.ext hb1
   have RC1:=RC.ext hb1
   rw[←hg]at RC1 ⊢
   clear t0 t1 t2 t3 tl qk hbk kc1 kc2 kc3 KV RT RC exb hb1 R hg
   by_cases h0:e=0
   case neg=>
    have RR:=zhd (HTR.out.stop HN.out HM.out e k HZ.out (HR.out.bad e HE.out h0) h0 hlt)
    have d0:(e !=0)=true:=by simp[h0]
    clear h0
    go_wp2
    go_ret
    exact .mk hbel1 (zk RR.out.symm)
   subst h0
   have REST:Hid (¬(0<k∧∀j,j=k - 1→0≤ordL (nthC l j).inn inn)→caseE n ins outs l k=vecsE n outs (nthC l k)):=zhd fun h=>HR.out.rest HE.out fun hk0 j hj hle=>h ⟨hk0,fun j' hj'=>by subst hj hj';rw[HINN.out];exact hle⟩
   by_cases hk0:0<k
   case pos=>
    obtain ⟨j,hj⟩:∃j,j=k - 1:=⟨_,rfl⟩
    have hjl:j<l.length:=by omega
    have q1:=QC.out j hjl
    obtain ⟨u,_,_,cu1,_,_,iu1,_⟩:=(HV.out.ext hbel1).case hjl
    have KO:Hid (∀m,Calls Tryz.prog 130 #[u,.slice a1 inn.length c1] (w1.drewN m) (QuietP (w1.drewN m) (.int .i64 (ordL (nthC l j).inn inn)))):=zhd fun m=>zfI (iu1.drewN m) ((HIN.out.ext hx1).drewN m)
    obtain ⟨c,hc⟩:∃c,c=ordL (nthC l j).inn inn:=⟨_,rfl⟩
    rw[←hc]at KO
    have w1':IntKind.i64.wrap ((k:Int) - 1)=j:=by rw[IntKind.wrap_i64];omega
    have w2':decide ((0:Int)<(k:Int))=true:=decide_eq_true (by omega)
    have w3':decide (0<k)=true:=decide_eq_true hk0
    have w4':(0:Int)≤(j:Int):=by omega
    have w5':(j:Int)<(l.length:Int):=by omega
    have HUN:Hid (0≤c→caseE n ins outs l k=14):=zhd fun h=>HR.out.un HE.out hk0 j hj (by rw[←HINN.out,←hc];exact h)
    have HRE:Hid (¬0≤c→caseE n ins outs l k=vecsE n outs (nthC l k)):=zhd fun h=>REST.out fun h'=>h (by rw[hc];exact h'.2 j hj)
    have t3:=RT1.zc 3 rfl
    have k0:=RC1.zc 0 rfl
    clear hc hj iu1
    by_cases hc0:0≤c
    case pos=>
     have RR:=zhd (HTR.out.stop HN.out HM.out 14 k HZ.out (HUN.out hc0) (by decide) hlt)
     go_wp2
     go_quiet ((go_at_call 130;exact zv (KO.out _)))
     go_wp2
     go_ret
     exact .mk (zm hbel1 _) (zk RR.out.symm)
    have RV:=zhd (HRE.out hc0)
    go_wp2
    go_quiet ((go_at_call 130;exact zv (KO.out _)))
    refine zQ fun w2 hq2=>?_
    clear q1 cu1 KO w1' w4' w5' t3 k0 HUN HRE REST
    have RT2:=RT1.ext hq2.ext
    have RC2:=RC1.ext hq2.ext
    have hx2:=zb hx1 hq2.ext
    have hbel2:=zb hbel1 hq2.ext
    have t0:=RT2.zc 0 rfl
    have t1:=RT2.zc 1 rfl
    have t2:=RT2.zc 2 rfl
    have t3:=RT2.zc 3 rfl
    have k0:=RC2.zc 0 rfl
    have k1:=RC2.zc 1 rfl
    have k2:=RC2.zc 2 rfl
    have KW:Hid (Calls Tryz.prog 131 #[.agg #[.int .i64 n,.int .i64 ins,.int .i64 outs,.slice ca l.length cc],.agg #[.slice a1 inn.length c1,.slice a2 on c2,.slice a3 cn c3]] w2 (Post w2 fun _ r=>r=.int .i64 (vecsE n outs (nthC l k)))):=zhd (xH n ins outs (by rw[←HINN.out];exact HIN.out.ext hx2) (HOU.out.ext hx2) (HCA.out.ext hx2))
    rw[←RV.out]at KW
    obtain ⟨e,he⟩:∃e,e=caseE n ins outs l k:=⟨_,rfl⟩
    rw[←he]at KW
    have HE2:=zhd he.symm
    clear he RV
    go_wp2_with fail
    refine KW.out.mono ?_
    rintro _ w3 ⟨_,rfl,hb3,rfl⟩
    have hbel3:=zb hbel2 hb3
    clear t0 t1 t2 t3 k0 k1 k2 KW
    by_cases h0:e=0
    ·subst h0
     have HZ2:=zhd (HZ.out.next HE2.out)
     have RT3:=RT2.ext hb3
     go_wp2
     go_roundw
     case rel=>exact ⟨k+1,by omega,by go_num,hbel3,RT3,HZ2⟩
     case measure=>simp[intOf];omega
    ·have RR:=zhd (HTR.out.stop HN.out HM.out e k HZ.out HE2.out h0 hlt)
     have d0:(e !=0)=true:=by simp[h0]
     clear h0
     go_wp2
     go_ret
     exact .mk hbel3 (zk RR.out.symm)
   case neg=>
    obtain rfl:k=0:=by omega
    have RV:=zhd (REST.out fun h=>by omega)
    have w2':decide ((0:Int)<((0:Nat):Int))=false:=by simp
    go_wp2
    go_quiet (fail)
    refine zQ fun w2 hq2=>?_
    clear REST
    have RT2:=RT1.ext hq2.ext
    have RC2:=RC1.ext hq2.ext
    have hx2:=zb hx1 hq2.ext
    have hbel2:=zb hbel1 hq2.ext
    have t0:=RT2.zc 0 rfl
    have t1:=RT2.zc 1 rfl
    have t2:=RT2.zc 2 rfl
    have t3:=RT2.zc 3 rfl
    have k0:=RC2.zc 0 rfl
    have k1:=RC2.zc 1 rfl
    have k2:=RC2.zc 2 rfl
    have KW:Hid (Calls Tryz.prog 131 #[.agg #[.int .i64 n,.int .i64 ins,.int .i64 outs,.slice ca l.length cc],.agg #[.slice a1 inn.length c1,.slice a2 on c2,.slice a3 cn c3]] w2 (Post w2 fun _ r=>r=.int .i64 (vecsE n outs (nthC l 0)))):=zhd (xH n ins outs (by rw[←HINN.out];exact HIN.out.ext hx2) (HOU.out.ext hx2) (HCA.out.ext hx2))
    rw[←RV.out]at KW
    obtain ⟨e,he⟩:∃e,e=caseE n ins outs l 0:=⟨_,rfl⟩
    rw[←he]at KW
    have HE2:=zhd he.symm
    clear he RV
    go_wp2_with fail
    refine KW.out.mono ?_
    rintro _ w3 ⟨_,rfl,hb3,rfl⟩
    have hbel3:=zb hbel2 hb3
    clear t0 t1 t2 t3 k0 k1 k2 KW
    by_cases h0:e=0
    ·subst h0
     have HZ2:=zhd (HZ.out.next HE2.out)
     have RT3:=RT2.ext hb3
     go_wp2
     go_roundw
     case rel=>exact ⟨0+1,by omega,by go_num,hbel3,RT3,HZ2⟩
     case measure=>simp[intOf];omega
    ·have RR:=zhd (HTR.out.stop HN.out HM.out e 0 HZ.out HE2.out h0 hlt)
     have d0:(e !=0)=true:=by simp[h0]
     clear h0
     go_wp2
     go_ret
     exact .mk hbel3 (zk RR.out.symm)
  ·obtain rfl:k=l.length:=by omega
   have RR:=zhd (HTR.out.fine HN.out HM.out HZ.out)
   go_wp2
   go_ret
   exact .mk hb (zk RR.out.symm)
end Go.Proofs.YtfjlhjkjjbiliaaGreat
