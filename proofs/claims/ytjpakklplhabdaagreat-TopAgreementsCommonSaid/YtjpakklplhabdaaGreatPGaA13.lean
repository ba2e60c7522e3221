/- Part of the proof that the laws answer true for every input. -/
import Derived.Test.YtjpakklplhabdaaGreatPGaA12
import Derived.StillTailTactics
set_option linter.unusedSimpArgs false
set_option linter.unnecessarySimpa false
set_option linter.unusedVariables false
set_option maxRecDepth 100000
set_option maxHeartbeats 40000000
namespace Go.Proofs.YtjpakklplhabdaaGreat
open Go.RowKit
attribute [local go_sem ↓] Go.wp_at_zero Go.wp_at_succ
theorem qM {S:Nat→Prop} {w:World} {v1 v2 v3 x:Value} {c:CaseD} (n ins outs:Int) (hin:Ints S w v1 c.inn) (hou:Lists S w v2 c.out) (hca:Lists S w v3 c.calm):
  Calls Tryz.prog 48 #[.agg #[.int .i64 n,.int .i64 ins,.int .i64 outs,x],.agg #[v1,v2,v3]] w (Post w fun _ r=>r=.int .i64 (vecsE n outs c)):=by
 have HVR:=zhd (vecsR n outs c)
 obtain ⟨r,hr⟩:∃r,r=vecsE n outs c:=⟨_,rfl⟩
 rw[←hr]at HVR ⊢
 obtain ⟨inn,hinn⟩:∃x,x=c.inn:=⟨_,rfl⟩
 obtain ⟨ol,hol⟩:∃x,x=c.out:=⟨_,rfl⟩
 obtain ⟨cl,hcl⟩:∃x,x=c.calm:=⟨_,rfl⟩
 rw[←hinn]at hin
 rw[←hol]at hou HVR
 rw[←hcl]at hca HVR
 obtain ⟨i0,hi,hz0,hz1,hz2⟩:=info_parts zF
 obtain ⟨a1,c1,rfl,_⟩:=hin.form
 obtain ⟨a2,c2,rfl,ad2,lo2,lm2⟩:=hou.form
 obtain ⟨a3,c3,rfl,ad3,lo3,lm3⟩:=hca.form
 unfold maxLen at lm2 lm3
 have Q2:=zhd (zz Tryz.underlying47 hi hz1 ad2)
 have Q3:=zhd (zz Tryz.underlying47 hi hz1 ad3)
 have HOU:=zhd hou
 have HCA:=zhd hca
 clear hr hinn hol hcl hin hou hca hi hz0 hz1 hz2 ad2 ad3
 obtain ⟨hbx,RT,RC⟩:=za0 w (.slice a1 inn.length c1) (.slice a2 ol.length c2) (.slice a3 cl.length c3) (.int .i64 n) (.int .i64 ins) (.int .i64 outs) x
 have BX:Hid (Below w.heap.size w ((w.alloc (.cells #[.int .i64 n,.int .i64 ins,.int .i64 outs,x] 24)).alloc (.cells #[.slice a1 inn.length c1,.slice a2 ol.length c2,.slice a3 cl.length c3] 62))):=zhd hbx
 by_cases hm:ol.length<1
 ·have RR:=zhd (HVR.out.many (.inl hm))
  go_enter Tryz.func48,Tryz.ntmps48
  go_wp2
  go_ret
  exact .mk hbx (zi RR.out.symm)
 by_cases hm2:1024<ol.length
 ·have RR:=zhd (HVR.out.many (.inr hm2))
  go_enter Tryz.func48,Tryz.ntmps48
  go_wp2
  go_ret
  exact .mk hbx (zi RR.out.symm)
 have HM:=zhd (show¬(ol.length<1∨1024<ol.length) by omega)
 go_enter Tryz.func48,Tryz.ntmps48
 go_wp2
 go_loopw [5,6,23] (fun _ _ i wr=>∃j:Nat,j≤ol.length∧i=.int .i64 j∧Below w.heap.size w wr∧Row wr w.heap.size 24 [.int .i64 n,.int .i64 ins,.int .i64 outs,x]∧Row wr (w.heap.size+1) 62 [.slice a1 inn.length c1,.slice a2 ol.length c2,.slice a3 cl.length c3]∧Hid (Zeros (outE n outs ol) j)) (fun _ _ i _=>ol.length - (intOf i).toNat)
 case atStart=>exact ⟨0,Nat.zero_le _,rfl,hbx,RT,RC,zhd (.zero _)⟩
 case round=>
  clear hbx RT RC BX
  obtain ⟨j,hj,rfl,hb,RT,RC,HZ⟩:=hrel
  have t0:=RT.zc 0 rfl
  have t2:=RT.zc 2 rfl
  have k1:=RC.zc 1 rfl
  have k2:=RC.zc 2 rfl
  by_cases hlt:j<ol.length
  ·have q:=Q2.out j hlt
   obtain ⟨u,cu,iu⟩:=HOU.out.at hb hlt
   have KV:=zhd (xq iu n outs)
   obtain ⟨e,he⟩:∃e,e=vecE (nthL ol j) n outs:=⟨_,rfl⟩
   rw[←he]at KV
   have HE:=zhd he.symm
   clear he iu
   go_wp2_with fail
   refine KV.out.mono ?_
   rintro _ w1 ⟨_,rfl,hb1,rfl⟩
   have hb2:=za hb hb1
   have RT1:=RT.ext hb1
   have RC1:=RC.ext hb1
   clear t0 t2 k1 k2 KV cu q
   by_cases h0:e=0
   ·subst h0
    have KU:=zhd ((Zx (HOU.out.ext hb2) hlt).mono fun _ _ h=>h.take)
    obtain ⟨b,hbb⟩:∃b,b=unord ol j:=⟨_,rfl⟩
    rw[←hbb]at KU
    have HB:=zhd hbb.symm
    clear hbb
    have k1:=RC1.zc 1 rfl
    go_wp2_with fail
    refine KU.out.mono ?_
    rintro _ w2 ⟨_,rfl,hq2,rfl⟩
    have hb3:=za hb2 hq2.ext
    clear k1 KU
    cases b with
    | true=>
     have RR:=zhd (HVR.out.out HM.out 14 j HZ.out (zal HE.out HB.out) (by decide) hlt)
     go_wp2
     go_ret
     exact .mk hb3 (zi RR.out.symm)
    | false=>
     have HZ2:=zhd (HZ.out.next (Zz HE.out HB.out))
     have RT2:=RT1.ext hq2.ext
     have RC2:=RC1.ext hq2.ext
     go_wp2
     go_roundw
     case rel=>exact ⟨j+1,by omega,by go_num,hb3,RT2,RC2,HZ2⟩
     case measure=>simp[intOf];omega
   ·have RR:=zhd (HVR.out.out HM.out e j HZ.out (YZ HE.out h0) h0 hlt)
    have d0:(e !=0)=true:=by simp[h0]
    clear h0
    go_wp2
    go_ret
    exact .mk hb2 (zi RR.out.symm)
  ·obtain rfl:j=ol.length:=by omega
   have HZO:=zhd HZ.out
   clear hlt HZ
   go_wp2
   clear t0 t2 k1 k2
   go_loopw [8,9,45] (fun _ _ i wr=>∃j:Nat,j≤cl.length∧i=.int .i64 j∧Below w.heap.size w wr∧Row wr (w.heap.size+1) 62 [.slice a1 inn.length c1,.slice a2 ol.length c2,.slice a3 cl.length c3]∧Hid (Zeros (calmE ol cl) j)) (fun _ _ i _=>cl.length - (intOf i).toNat)
   case atStart=>exact ⟨0,Nat.zero_le _,rfl,hb,RC,zhd (.zero _)⟩
   case round=>
    clear hb RC RT
    obtain ⟨j,hj,rfl,hb,RC,HZ⟩:=hrel
    have k1:=RC.zc 1 rfl
    have k2:=RC.zc 2 rfl
    by_cases hlt:j<cl.length
    ·have q:=Q3.out j hlt
     obtain ⟨u,cu,iu⟩:=HCA.out.at hb hlt
     have KV:=zhd (zbD (HOU.out.ext hb) iu)
     obtain ⟨b,he⟩:∃e,e=decide (nthL cl j∈ol):=⟨_,rfl⟩
     rw[←he]at KV
     have HE:=zhd he.symm
     clear he iu
     go_wp2_with fail
     refine KV.out.mono ?_
     rintro _ w1 ⟨_,rfl,hb1,rfl⟩
     have hb2:=za hb hb1
     have RC1:=RC.ext hb1
     clear k1 k2 KV cu q
     cases b with
     | false=>
      have RR:=zhd (HVR.out.calm HM.out HZO.out 6 j HZ.out (Zs HE.out) (by decide) hlt)
      go_wp2
      go_ret
      exact .mk hb2 (zi RR.out.symm)
     | true=>
      have KU:=zhd ((Zx (HCA.out.ext hb2) hlt).mono fun _ _ h=>h.take)
      obtain ⟨b,hbb⟩:∃b,b=unord cl j:=⟨_,rfl⟩
      rw[←hbb]at KU
      have HB:=zhd hbb.symm
      clear hbb
      have k2:=RC1.zc 2 rfl
      go_wp2_with fail
      refine KU.out.mono ?_
      rintro _ w2 ⟨_,rfl,hq2,rfl⟩
      have hb3:=za hb2 hq2.ext
      clear k2 KU
      cases b with
      | true=>
       have RR:=zhd (HVR.out.calm HM.out HZO.out 14 j HZ.out (YF HE.out HB.out) (by decide) hlt)
       go_wp2
       go_ret
       exact .mk hb3 (zi RR.out.symm)
      | false=>
       have HZ2:=zhd (HZ.out.next (xC HE.out HB.out))
       have RC2:=RC1.ext hq2.ext
       go_wp2
       go_roundw
       case rel=>exact ⟨j+1,by omega,by go_num,hb3,RC2,HZ2⟩
       case measure=>simp[intOf];omega
    ·obtain rfl:j=cl.length:=by omega
     have RR:=zhd (HVR.out.fine HM.out HZO.out HZ.out)
     go_wp2
     go_ret
     exact .mk hb (zi RR.out.symm)
theorem qh {S:Nat→Prop} {w:World} {vc:Value} {l:List CaseD} (n ins outs:Int) (hv:Sl kCase S w vc l):
  Calls Tryz.prog 20 #[.agg #[.int .i64 n,.int .i64 ins,.int .i64 outs,vc]] w (Post w fun _ r=>r=.int .i64 (checkT n ins outs l)):=by
 have HTR:=zhd (taskR n ins outs l)
 obtain ⟨r,hr⟩:∃r,r=checkT n ins outs l:=⟨_,rfl⟩
 rw[←hr]at HTR ⊢
 have HV:=zhd hv
 obtain ⟨ca,cc,rfl,cad,lo,lm⟩:=hv.form
 unfold maxLen at lm
 clear hr hv
 have ex:=zb w (.cells #[.int .i64 n,.int .i64 ins,.int .i64 outs,.slice ca l.length cc] 24)
 have RT:Row (w.alloc (.cells #[.int .i64 n,.int .i64 ins,.int .i64 outs,.slice ca l.length cc] 24)) w.heap.size 24 [.int .i64 n,.int .i64 ins,.int .i64 outs,.slice ca l.length cc]:=ze w [_,_,_,_] _
 by_cases g0:n<1
 ·have RR:=zhd (HTR.out.range (by omega))
  go_enter Tryz.func20,Tryz.ntmps20
  go_wp2
  go_ret
  exact .mk ex (zi RR.out.symm)
 by_cases g1:5<n
 ·have RR:=zhd (HTR.out.range (by omega))
  go_enter Tryz.func20,Tryz.ntmps20
  go_wp2
  go_ret
  exact .mk ex (zi RR.out.symm)
 by_cases g2:ins<1
 ·have RR:=zhd (HTR.out.range (by omega))
  go_enter Tryz.func20,Tryz.ntmps20
  go_wp2
  go_ret
  exact .mk ex (zi RR.out.symm)
 by_cases g3:8<ins
 ·have RR:=zhd (HTR.out.range (by omega))
  go_enter Tryz.func20,Tryz.ntmps20
  go_wp2
  go_ret
  exact .mk ex (zi RR.out.symm)
 by_cases g4:outs<1
 ·have RR:=zhd (HTR.out.range (by omega))
  go_enter Tryz.func20,Tryz.ntmps20
  go_wp2
  go_ret
  exact .mk ex (zi RR.out.symm)
 by_cases g5:8<outs
 ·have RR:=zhd (HTR.out.range (by omega))
  go_enter Tryz.func20,Tryz.ntmps20
  go_wp2
  go_ret
  exact .mk ex (zi RR.out.symm)
 have HN:=zhd (show¬(n<1∨5<n∨ins<1∨8<ins∨outs<1∨8<outs) by omega)
 by_cases m0:l.length<1
 ·have RR:=zhd (HTR.out.many HN.out (.inl m0))
  go_enter Tryz.func20,Tryz.ntmps20
  go_wp2
  go_ret
  exact .mk ex (zi RR.out.symm)
 by_cases m1:1024<l.length
 ·have RR:=zhd (HTR.out.many HN.out (.inr m1))
  go_enter Tryz.func20,Tryz.ntmps20
  go_wp2
  go_ret
  exact .mk ex (zi RR.out.symm)
 have HM:=zhd (show¬(l.length<1∨1024<l.length) by omega)
 go_enter Tryz.func20,Tryz.ntmps20
 go_wp2
 clear g0 g1 g2 g3 g4 g5 m0
 have HRC:=zhd fun k=>caseR n ins outs l k
 obtain ⟨ic,hic,hic1⟩:=zL (T:=62) (z:=3) (by kernel_rfl)
 have QC:=zhd (zJ Tryz.underlying22 hic hic1 cad)
 have HBK:Hid (0<l.length→∀j,(adr ca j).block<w.heap.size):=zhd fun h j=>zI cad h j
 clear hic hic1 cad
 go_loopw [3,46] (fun _ i wr=>∃k:Nat,k≤l.length∧i=.int .i64 k∧Below w.heap.size w wr∧Row wr w.heap.size 24 [.int .i64 n,.int .i64 ins,.int .i64 outs,.slice ca l.length cc]∧Hid (Zeros (caseE n ins outs l) k)) (fun _ i _=>l.length - (intOf i).toNat)
 case atStart=>exact ⟨0,Nat.zero_le _,rfl,ex,RT,zhd (.zero _)⟩
 case round=>
  clear ex RT
  obtain ⟨k,hk,rfl,hb,R,HZ⟩:=hrel
  by_cases hlt:k<l.length
  ·have t0:=R.zc 0 rfl
   have t1:=R.zc 1 rfl
   have t2:=R.zc 2 rfl
   have t3:=R.zc 3 rfl
   have tl:=R.lt
   have qk:=QC.out k hlt
   have hbk:=Nat.lt_of_lt_of_le (HBK.out (by omega) (k * 3)) hb.size
   obtain ⟨v1,v2,v3,kc1,kc2,kc3,hin,hou,hca⟩:=(HV.out.ext hb).case hlt
   obtain ⟨a1,c1,rfl,_⟩:=hin.form
   obtain ⟨a2,c2,rfl,_⟩:=hou.form
   obtain ⟨a3,c3,rfl,_⟩:=hca.form
   have HIN:=zhd hin
   have HOU:=zhd hou
   have HCA:=zhd hca
   have HR:=zhd (HRC.out k)
   obtain ⟨inn,hinn⟩:∃x,x=(nthC l k).inn:=⟨_,rfl⟩
   obtain ⟨on,hon⟩:∃x,x=(nthC l k).out.length:=⟨_,rfl⟩
   obtain ⟨cn,hcn⟩:∃x,x=(nthC l k).calm.length:=⟨_,rfl⟩
   have HINN:=zhd hinn
   rw[←hinn]at HIN kc1
   rw[←hon]at HOU kc2
   rw[←hcn]at HCA kc3
   have exb:=zb wr (.cells #[.slice a1 inn.length c1,.slice a2 on c2,.slice a3 cn c3] 62)
   have RC:Row (wr.alloc (.cells #[.slice a1 inn.length c1,.slice a2 on c2,.slice a3 cn c3] 62)) wr.heap.size 62 [.slice a1 inn.length c1,.slice a2 on c2,.slice a3 cn c3]:=ze wr [_,_,_] _
   have RT:=R.alloc (.cells #[.slice a1 inn.length c1,.slice a2 on c2,.slice a3 cn c3] 62)
   have KV:=zhd fun W (hW:Below wr.heap.size wr W)=>xq (HIN.out.ext hW) n ins
   obtain ⟨e,he⟩:∃e,e=vecE inn n ins:=⟨_,rfl⟩
   rw[←he]at KV
   have HE:Hid (vecE (nthC l k).inn n ins=e):=zhd (by rw[he,HINN.out])
   obtain ⟨g,hg⟩:∃g,g=wr.heap.size:=⟨_,rfl⟩
   have HG:=zhd hg
   clear he hinn hon hcn hin hou hca
   go_wp2_with fail
   refine (KV.out _ exb).mono ?_
   rintro _ w1 ⟨_,rfl,hb1,rfl⟩
   have hx1:=za exb hb1
   have hbel1:=za hb hx1
   have RT1:=RT.ext hb1
   have RC1:=RC.ext hb1
   rw[←hg]at RC1 ⊢
   clear t0 t1 t2 t3 tl qk hbk kc1 kc2 kc3 KV RT RC exb hb1 R hg
   by_cases h0:e=0
   case neg=>
    have RR:=zhd (HTR.out.stop HN.out HM.out e k HZ.out (HR.out.bad e HE.out h0) h0 hlt)
    have d0:(e !=0)=true:=by simp[h0]
    clear h0
    go_wp2
    go_ret
    exact .mk hbel1 (zi RR.out.symm)
   subst h0
   have REST:Hid (¬(0<k∧∀j,j=k - 1→0≤ordL (nthC l j).inn inn)→caseE n ins outs l k=vecsE n outs (nthC l k)):=zhd fun h=>HR.out.rest HE.out fun hk0 j hj hle=>h ⟨hk0,fun j' hj'=>by subst hj hj';rw[HINN.out];exact hle⟩
   by_cases hk0:0<k
   case pos=>
    obtain ⟨j,hj⟩:∃j,j=k - 1:=⟨_,rfl⟩
    have hjl:j<l.length:=by omega
    have q1:=QC.out j hjl
    obtain ⟨u,_,_,cu1,_,_,iu1,_⟩:=(HV.out.ext hbel1).case hjl
    have KO:Hid (∀m,Calls Tryz.prog 47 #[u,.slice a1 inn.length c1] (w1.drewN m) (QuietP (w1.drewN m) (.int .i64 (ordL (nthC l j).inn inn)))):=zhd fun m=>zd9 (iu1.drewN m) ((HIN.out.ext hx1).drewN m)
    obtain ⟨c,hc⟩:∃c,c=ordL (nthC l j).inn inn:=⟨_,rfl⟩
    rw[←hc]at KO
    have w1':IntKind.i64.wrap ((k:Int) - 1)=j:=by rw[IntKind.wrap_i64];omega
    have w2':decide ((0:Int)<(k:Int))=true:=decide_eq_true (by omega)
    have w3':decide (0<k)=true:=decide_eq_true hk0
    have w4':(0:Int)≤(j:Int):=by omega
    have w5':(j:Int)<(l.length:Int):=by omega
    have HUN:Hid (0≤c→caseE n ins outs l k=14):=zhd fun h=>HR.out.un HE.out hk0 j hj (by rw[←HINN.out,←hc];exact h)
    have HRE:Hid (¬0≤c→caseE n ins outs l k=vecsE n outs (nthC l k)):=zhd fun h=>REST.out fun h'=>h (by rw[hc];exact h'.2 j hj)
    have t3:=RT1.zc 3 rfl
    have k0:=RC1.zc 0 rfl
    clear hc hj iu1
    by_cases hc0:0≤c
    case pos=>
     have RR:=zhd (HTR.out.stop HN.out HM.out 14 k HZ.out (HUN.out hc0) (by decide) hlt)
     go_wp2
     go_quiet ((go_at_call 47;exact zr (KO.out _)))
     go_wp2
     go_ret
     exact .mk (zx hbel1 _) (zi RR.out.symm)
    have RV:=zhd (HRE.out hc0)
    go_wp2
    go_quiet ((go_at_call 47;exact zr (KO.out _)))
    refine zK fun w2 hq2=>?_
    clear q1 cu1 KO w1' w4' w5' t3 k0 HUN HRE REST
    have RT2:=RT1.ext hq2.ext
    have RC2:=RC1.ext hq2.ext
    have hx2:=za hx1 hq2.ext
    have hbel2:=za hbel1 hq2.ext
    have t0:=RT2.zc 0 rfl
    have t1:=RT2.zc 1 rfl
    have t2:=RT2.zc 2 rfl
    have t3:=RT2.zc 3 rfl
    have k0:=RC2.zc 0 rfl
    have k1:=RC2.zc 1 rfl
    have k2:=RC2.zc 2 rfl
    have KW:Hid (Calls Tryz.prog 48 #[.agg #[.int .i64 n,.int .i64 ins,.int .i64 outs,.slice ca l.length cc],.agg #[.slice a1 inn.length c1,.slice a2 on c2,.slice a3 cn c3]] w2 (Post w2 fun _ r=>r=.int .i64 (vecsE n outs (nthC l k)))):=zhd (qM n ins outs (by rw[←HINN.out];exact HIN.out.ext hx2) (HOU.out.ext hx2) (HCA.out.ext hx2))
    rw[←RV.out]at KW
    obtain ⟨e,he⟩:∃e,e=caseE n ins outs l k:=⟨_,rfl⟩
    rw[←he]at KW
    have HE2:=zhd he.symm
    clear he RV
    go_wp2_with fail
    refine KW.out.mono ?_
    rintro _ w3 ⟨_,rfl,hb3,rfl⟩
    have hbel3:=za hbel2 hb3
    clear t0 t1 t2 t3 k0 k1 k2 KW
    by_cases h0:e=0
    ·subst h0
     have HZ2:=zhd (HZ.out.next HE2.out)
     have RT3:=RT2.ext hb3
     go_wp2
     go_roundw
     case rel=>exact ⟨k+1,by omega,by go_num,hbel3,RT3,HZ2⟩
     case measure=>simp[intOf];omega
    ·have RR:=zhd (HTR.out.stop HN.out HM.out e k HZ.out HE2.out h0 hlt)
     have d0:(e !=0)=true:=by simp[h0]
     clear h0
     go_wp2
     go_ret
     exact .mk hbel3 (zi RR.out.symm)
   case neg=>
    obtain rfl:k=0:=by omega
    have RV:=zhd (REST.out fun h=>by omega)
    have w2':decide ((0:Int)<((0:Nat):Int))=false:=by simp
    go_wp2
    go_quiet (fail)
    refine zK fun w2 hq2=>?_
    clear REST
    have RT2:=RT1.ext hq2.ext
    have RC2:=RC1.ext hq2.ext
    have hx2:=za hx1 hq2.ext
    have hbel2:=za hbel1 hq2.ext
    have t0:=RT2.zc 0 rfl
    have t1:=RT2.zc 1 rfl
    have t2:=RT2.zc 2 rfl
    have t3:=RT2.zc 3 rfl
    have k0:=RC2.zc 0 rfl
    have k1:=RC2.zc 1 rfl
    have k2:=RC2.zc 2 rfl
    have KW:Hid (Calls Tryz.prog 48 #[.agg #[.int .i64 n,.int .i64 ins,.int .i64 outs,.slice ca l.length cc],.agg #[.slice a1 inn.length c1,.slice a2 on c2,.slice a3 cn c3]] w2 (Post w2 fun _ r=>r=.int .i64 (vecsE n outs (nthC l 0)))):=zhd (qM n ins outs (by rw[←HINN.out];exact HIN.out.ext hx2) (HOU.out.ext hx2) (HCA.out.ext hx2))
    rw[←RV.out]at KW
    obtain ⟨e,he⟩:∃e,e=caseE n ins outs l 0:=⟨_,rfl⟩
    rw[←he]at KW
    have HE2:=zhd he.symm
    clear he RV
    go_wp2_with fail
    refine KW.out.mono ?_
    rintro _ w3 ⟨_,rfl,hb3,rfl⟩
    have hbel3:=za hbel2 hb3
    clear t0 t1 t2 t3 k0 k1 k2 KW
    by_cases h0:e=0
    ·subst h0
     have HZ2:=zhd (HZ.out.next HE2.out)
     have RT3:=RT2.ext hb3
     go_wp2
     go_roundw
     case rel=>exact ⟨0+1,by omega,by go_num,hbel3,RT3,HZ2⟩
     case measure=>simp[intOf];omega
    ·have RR:=zhd (HTR.out.stop HN.out HM.out e 0 HZ.out HE2.out h0 hlt)
     have d0:(e !=0)=true:=by simp[h0]
     clear h0
     go_wp2
     go_ret
     exact .mk hbel3 (zi RR.out.symm)
  ·obtain rfl:k=l.length:=by omega
   have RR:=zhd (HTR.out.fine HN.out HM.out HZ.out)
   go_wp2
   go_ret
   exact .mk hb (zi RR.out.symm)
theorem ZK {P:Program} {ops:Array Oper} {Q:Exit→Act→World→Prop} {rest:List Oper} {a:Act} {w:World} (h:∀w',QW w w'→wpList P ops Q rest a w'):wpList P ops Q rest a w.drew:=h _ ⟨1,rfl⟩
theorem zcj:∃i,Tryz.prog.info? 69=some i∧i.size=8:=zL (by kernel_rfl)
theorem ZM:(Tryz.prog.info? 70).map (fun i=>(i.zero,i.size,i.bytes))=some (some (.slice none 0 0),1,24):=by kernel_rfl
theorem Sl.idxM {S:Nat→Prop} {w:World} {a:Option Addr} {m cap:Nat} {l:List (List Int)} (h:Sl (kFlat 8) S w (.slice a m cap) l):
  Hid (∀k:Nat,k<l.length→∀W:World,(Instr.indexAt 70 (.slice a l.length cap) (.int .i64 k)).run Tryz.prog W=.ok (.pointer (some (adr a (k * 8)))) W):=by
 obtain ⟨i,hi,h1⟩:=zcj
 exact zhd (zJ Tryz.underlying70 hi h1 h.ad.1)
theorem Sl.idxS {S:Nat→Prop} {w:World} {a:Option Addr} {m cap:Nat} {st:Moves} (h:Sl (kSl (kFlat 8)) S w (.slice a m cap) st):
  Hid (∀k:Nat,k<st.length→∀W:World,(Instr.indexAt 25 (.slice a st.length cap) (.int .i64 k)).run Tryz.prog W=.ok (.pointer (some (adr a k))) W):=by
 obtain ⟨i,hi,_,h1,_⟩:=info_parts ZM
 exact zhd (zz Tryz.underlying25 hi h1 h.ad.1)
theorem Sl.mrow {S:Nat→Prop} {w W:World} {a:Option Addr} {m cap:Nat} {st:Moves} (h:Sl (kSl (kFlat 8)) S w (.slice a m cap) st) (hb:Below w.heap.size w W) {k:Nat} (hk:k<st.length):
  ∃b c,W.cell? (adr a k)=some (.slice b (nthM st k).length c)∧Sl (kFlat 8) S W (.slice b (nthM st k).length c) (nthM st k):=by
 obtain ⟨v,h1,h2⟩:=(h.ext hb).row hk
 have e:nthM st k=st[k]:=by simp[nthM,hk]
 rw[←e]at h2
 obtain ⟨b,c,rfl,_⟩:=h2.form
 exact ⟨b,c,h1,h2⟩
structure MoveR (n:Int) (ns:Nat) (l:List (List Int)) (i:Nat) (r:Int):Prop where
 bad:∀e,checkR (nthL l i)=e→e≠0→r=e
 mis:checkR (nthL l i)=0→nth (nthL l i) 0≠n→r=22
 un:checkR (nthL l i)=0→nth (nthL l i) 0=n→0<i→∀j,j=i - 1→0≤lexN (nthL l j) (nthL l i) 7→r=14
 to:checkR (nthL l i)=0→nth (nthL l i) 0=n→(0<i→∀j,j=i - 1→lexN (nthL l j) (nthL l i) 7<0)→(nth (nthL l i) 7<0∨(ns:Int)≤nth (nthL l i) 7)→r=2
 fine:checkR (nthL l i)=0→nth (nthL l i) 0=n→(0<i→∀j,j=i - 1→lexN (nthL l j) (nthL l i) 7<0)→¬(nth (nthL l i) 7<0∨(ns:Int)≤nth (nthL l i) 7)→r=0
theorem moveR (n:Int) (ns:Nat) (l:List (List Int)) (i:Nat):MoveR n ns l i (moveE n ns l i):=by
 refine ⟨fun e he h0=>?_,fun he h=>?_,fun he h hi j hj hle=>?_,fun he h hu ht=>?_,fun he h hu ht=>?_⟩
 ·unfold moveE;rw[he,if_neg h0]
 ·unfold moveE;rw[he,if_pos rfl,if_pos h]
 ·subst hj;unfold moveE;rw[he,if_pos rfl,if_neg (fun h'=>h' h)];simp[hi,hle]
 all_goals
  have hd:(decide (0<i)&&decide (0≤lexN (nthL l (i - 1)) (nthL l i) 7))=false:=by
   by_cases hi:0<i
   ·have:=hu hi _ rfl;simp;intro _;omega
   ·simp[hi]
  unfold moveE;rw[he,if_pos rfl,if_neg (fun h'=>h' h),hd]
  simp[ht]
theorem X6 {S S':Nat→Prop} {w:World} {vs vl:Value} {st:Moves} {l:List (List Int)} (n:Int) (hs:Sl (kSl (kFlat 8)) S' w vs st) (hv:Sl (kFlat 8) S w vl l) {i:Nat} (hi:i<l.length):
  Calls Tryz.prog 128 #[.agg #[.int .i64 n,vs],vl,.int .i64 i] w (Post w fun _ r=>r=.int .i64 (moveE n st.length l i)):=by
 have HMR:=zhd (moveR n st.length l i)
 obtain ⟨r,hr⟩:∃r,r=moveE n st.length l i:=⟨_,rfl⟩
 rw[←hr]at HMR ⊢
 obtain ⟨sa,sc,rfl,_⟩:=hs.form
 obtain ⟨a,cap,rfl,ad,lo,lm⟩:=hv.form
 unfold maxLen at lm
 have HV:=zhd hv
 have Q:=hv.idxM
 have hz:=hv.nums hi (by decide)
 have z0:=hz.1
 have z1:=hz.2 1 (by decide)
 have z2:=hz.2 2 (by decide)
 have z3:=hz.2 3 (by decide)
 have z4:=hz.2 4 (by decide)
 have z5:=hz.2 5 (by decide)
 have z6:=hz.2 6 (by decide)
 have hbk:=zI ad (show 0<l.length by omega) (i * 8)
 have q:=Q.out i hi
 obtain ⟨m,hm⟩:∃m,m=nthL l i:=⟨_,rfl⟩
 have HM:=zhd hm
 rw[←hm]at z0 z1 z2 z3 z4 z5 z6
 have KR:Hid (∀W,Calls Tryz.prog 144 #[.agg #[.int .i64 (nth m 0),.int .i64 (nth m 1),.int .i64 (nth m 2),.int .i64 (nth m 3),.int .i64 (nth m 4),.int .i64 (nth m 5),.int .i64 (nth m 6)]] W (Post W fun _ r=>r=.int .i64 (checkR m))):=zhd fun W=>YE W m
 obtain ⟨e,he⟩:∃e,e=checkR m:=⟨_,rfl⟩
 rw[←he]at KR
 have HE:Hid (checkR (nthL l i)=e):=zhd (by rw[he,hm])
 have exb:=zg (zb w (.cells #[.int .i64 n,.slice sa st.length sc] 27)) (.cells #[.int .i64 (nth m 0),.int .i64 (nth m 1),.int .i64 (nth m 2),.int .i64 (nth m 3),.int .i64 (nth m 4),.int .i64 (nth m 5),.int .i64 (nth m 6)] 67)
 have RA:Row ((w.alloc (.cells #[.int .i64 n,.slice sa st.length sc] 27)).alloc (.cells #[.int .i64 (nth m 0),.int .i64 (nth m 1),.int .i64 (nth m 2),.int .i64 (nth m 3),.int .i64 (nth m 4),.int .i64 (nth m 5),.int .i64 (nth m 6)] 67)) w.heap.size 27 [.int .i64 n,.slice sa st.length sc]:=(ze w [_,_] _).alloc _
 have RM:Row ((w.alloc (.cells #[.int .i64 n,.slice sa st.length sc] 27)).alloc (.cells #[.int .i64 (nth m 0),.int .i64 (nth m 1),.int .i64 (nth m 2),.int .i64 (nth m 3),.int .i64 (nth m 4),.int .i64 (nth m 5),.int .i64 (nth m 6)] 67)) (w.heap.size+1) 67 [.int .i64 (nth m 0),.int .i64 (nth m 1),.int .i64 (nth m 2),.int .i64 (nth m 3),.int .i64 (nth m 4),.int .i64 (nth m 5),.int .i64 (nth m 6)]:=by
  have:=ze (w.alloc (.cells #[.int .i64 n,.slice sa st.length sc] 27)) [.int .i64 (nth m 0),.int .i64 (nth m 1),.int .i64 (nth m 2),.int .i64 (nth m 3),.int .i64 (nth m 4),.int .i64 (nth m 5),.int .i64 (nth m 6)] 67
  rwa [World.size_alloc]at this
 clear hr hs hv hz hm he ad
 go_enter Tryz.func128,Tryz.ntmps128
 go_wp2_with fail
 refine (KR.out _).mono ?_
 rintro _ w1 ⟨_,rfl,hb1,rfl⟩
 have RA1:=RA.ext hb1
 have RM1:=RM.ext hb1
 have hx1:=za exb hb1
 clear z0 z1 z2 z3 z4 z5 z6 q hbk KR RA RM exb hb1
 by_cases h0:e=0
 case neg=>
  have RR:=zhd (HMR.out.bad e HE.out h0)
  have d0:(e !=0)=true:=by simp[h0]
  clear h0
  go_wp2
  go_ret
  exact .mk hx1 (zi RR.out.symm)
 subst h0
 have t0:=RA1.zc 0 rfl
 have m0:=RM1.zc 0 rfl
 obtain ⟨mn,hmn⟩:∃x,x=nth m 0:=⟨_,rfl⟩
 rw[←hmn]at m0
 have HMN:Hid (nth (nthL l i) 0=mn):=zhd (by rw[hmn,HM.out])
 clear hmn
 by_cases hn:mn=n
 case neg=>
  have RR:=zhd (HMR.out.mis HE.out (by rw[HMN.out];exact hn))
  have d0:(mn !=n)=true:=by simp[hn]
  clear hn
  go_wp2
  go_ret
  exact .mk hx1 (zi RR.out.symm)
 have d0:(mn !=n)=false:=by simp[hn]
 have HN:Hid (nth (nthL l i) 0=n):=zhd (by rw[HMN.out,hn])
 clear hn
 by_cases hi0:0<i
 case pos=>
  obtain ⟨j,hj⟩:∃j,j=i - 1:=⟨_,rfl⟩
  have hjl:j<l.length:=by omega
  have q1:=Q.out j hjl
  have hz:=(HV.out.ext hx1).nums hjl (by decide)
  have z0:=hz.1
  have z1:=hz.2 1 (by decide)
  have z2:=hz.2 2 (by decide)
  have z3:=hz.2 3 (by decide)
  have z4:=hz.2 4 (by decide)
  have z5:=hz.2 5 (by decide)
  have z6:=hz.2 6 (by decide)
  obtain ⟨m',hm'⟩:∃m,m=nthL l j:=⟨_,rfl⟩
  rw[←hm']at z0 z1 z2 z3 z4 z5 z6
  have KO:Hid (∀W,Calls Tryz.prog 145 #[.agg #[.int .i64 (nth m' 0),.int .i64 (nth m' 1),.int .i64 (nth m' 2),.int .i64 (nth m' 3),.int .i64 (nth m' 4),.int .i64 (nth m' 5),.int .i64 (nth m' 6)],.agg #[.int .i64 (nth m 0),.int .i64 (nth m 1),.int .i64 (nth m 2),.int .i64 (nth m 3),.int .i64 (nth m 4),.int .i64 (nth m 5),.int .i64 (nth m 6)]] W (Post W fun _ r=>r=.int .i64 (lexN m' m 7))):=zhd fun W=>zaD W m' m
  obtain ⟨c,hc⟩:∃c,c=lexN m' m 7:=⟨_,rfl⟩
  rw[←hc]at KO
  have w1':IntKind.i64.wrap ((i:Int) - 1)=j:=by rw[IntKind.wrap_i64];omega
  have w2':decide ((0:Int)<(i:Int))=true:=decide_eq_true (by omega)
  have w3':decide (0<i)=true:=decide_eq_true hi0
  have w4':(0:Int)≤(j:Int):=by omega
  have w5':(j:Int)<(l.length:Int):=by omega
  have HUN:Hid (0≤c→r=14):=zhd fun h=>HMR.out.un HE.out HN.out hi0 j hj (by rw[←hm',←HM.out,←hc];exact h)
  have HFI:Hid (c<0→(0<i→∀j,j=i - 1→lexN (nthL l j) (nthL l i) 7<0)):=zhd fun h _ j2 hj2=>by
   subst hj2;rw[←hj,←hm',←HM.out,←hc];exact h
  clear hc hj hz hm'
  go_wp2
  clear m0
  have m0:=RM1.zc 0 rfl
  have m1:=RM1.zc 1 rfl
  have m2:=RM1.zc 2 rfl
  have m3:=RM1.zc 3 rfl
  have m4:=RM1.zc 4 rfl
  have m5:=RM1.zc 5 rfl
  have m6:=RM1.zc 6 rfl
  go_still_tail 10,(by kernel_rfl)
  refine ZK fun w2 hq2=>?_
  clear q1 z0 z1 z2 z3 z4 z5 z6 m0 m1 m2 m3 m4 m5 m6 t0 w1' w4' w5'
  go_wp2_with fail
  refine (KO.out _).mono ?_
  rintro _ w3 ⟨_,rfl,hb3,rfl⟩
  have hq3:=za hq2.ext hb3
  have hx3:=za hx1 hq3
  have RA3:=RA1.ext hq3
  clear KO hb3
  by_cases hc0:0≤c
  ·have RR:=zhd (HUN.out hc0)
   go_wp2
   go_ret
   exact .mk hx3 (zi RR.out.symm)
  have HF:=zhd (HFI.out (by omega))
  have t1:=RA3.zc 1 rfl
  have q:=Q.out i hi
  have z7:=((HV.out.ext hx3).nums hi (by decide)).2 7 (by decide)
  obtain ⟨to,hto⟩:∃x,x=nth (nthL l i) 7:=⟨_,rfl⟩
  rw[←hto]at z7
  have HTO:=zhd hto.symm
  have w6':(0:Int)≤(i:Int):=by omega
  have w7':(i:Int)<(l.length:Int):=by omega
  clear hto
  by_cases ht1:to<0
  ·have RR:=zhd (HMR.out.to HE.out HN.out HF.out (.inl (by rw[HTO.out];exact ht1)))
   have dt:decide (to<0)=true:=decide_eq_true ht1
   go_wp2
   go_quiet (fail)
   go_wp2
   go_ret
   exact .mk (zx hx3 _) (zi RR.out.symm)
  have dt:decide (to<0)=false:=decide_eq_false ht1
  by_cases ht2:(st.length:Int)≤to
  ·have RR:=zhd (HMR.out.to HE.out HN.out HF.out (.inr (by rw[HTO.out];exact ht2)))
   go_wp2
   go_quiet (fail)
   go_wp2
   go_ret
   exact .mk (zx hx3 _) (zi RR.out.symm)
  ·have RR:=zhd (HMR.out.fine HE.out HN.out HF.out (by rw[HTO.out];omega))
   go_wp2
   go_quiet (fail)
   go_wp2
   go_ret
   exact .mk (zx hx3 _) (zi RR.out.symm)
 case neg=>
  have HF:Hid (0<i→∀j,j=i - 1→lexN (nthL l j) (nthL l i) 7<0):=zhd fun h=>by omega
  have w2':decide ((0:Int)<(i:Int))=false:=decide_eq_false (by omega)
  have w3':decide (0<i)=false:=decide_eq_false hi0
  go_wp2
  go_quiet (fail)
  refine zK fun w3 hq3'=>?_
  have hq3:=hq3'.ext
  have hx3:=za hx1 hq3
  have RA3:=RA1.ext hq3
  clear t0 m0
  have t1:=RA3.zc 1 rfl
  have q:=Q.out i hi
  have z7:=((HV.out.ext hx3).nums hi (by decide)).2 7 (by decide)
  obtain ⟨to,hto⟩:∃x,x=nth (nthL l i) 7:=⟨_,rfl⟩
  rw[←hto]at z7
  have HTO:=zhd hto.symm
  have w6':(0:Int)≤(i:Int):=by omega
  have w7':(i:Int)<(l.length:Int):=by omega
  clear hto
  by_cases ht1:to<0
  ·have RR:=zhd (HMR.out.to HE.out HN.out HF.out (.inl (by rw[HTO.out];exact ht1)))
   have dt:decide (to<0)=true:=decide_eq_true ht1
   go_wp2
   go_quiet (fail)
   go_wp2
   go_ret
   exact .mk (zx hx3 _) (zi RR.out.symm)
  have dt:decide (to<0)=false:=decide_eq_false ht1
  by_cases ht2:(st.length:Int)≤to
  ·have RR:=zhd (HMR.out.to HE.out HN.out HF.out (.inr (by rw[HTO.out];exact ht2)))
   go_wp2
   go_quiet (fail)
   go_wp2
   go_ret
   exact .mk (zx hx3 _) (zi RR.out.symm)
  ·have RR:=zhd (HMR.out.fine HE.out HN.out HF.out (by rw[HTO.out];omega))
   go_wp2
   go_quiet (fail)
   go_wp2
   go_ret
   exact .mk (zx hx3 _) (zi RR.out.symm)
end Go.Proofs.YtjpakklplhabdaaGreat
