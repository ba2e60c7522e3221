/- Part of the proof that the laws answer true for every input. -/
import Derived.Test.YtjpakklplhabdaaGreatPGaA11
set_option linter.unusedSimpArgs false
set_option linter.unnecessarySimpa false
set_option linter.unusedVariables false
set_option maxRecDepth 100000
set_option maxHeartbeats 40000000
namespace Go.Proofs.YtjpakklplhabdaaGreat
open Go.RowKit
attribute [local go_sem ↓] Go.wp_at_zero Go.wp_at_succ
theorem zK {K:Act→World→Prop} {Q:Exit→Act→World→Prop} {e:Exit} {a:Act} {w:World} {n:Nat} (h:∀w',QW w w'→Exit.then K Q e a w'):Exit.then K Q e a (w.drewN n):=h _ ⟨n,rfl⟩
theorem zI {S:Nat→Prop} {w:World} {a:Option Addr} {n cap:Nat} (h:Ad S w a n cap) (hn:0<n) (j:Nat):(adr a j).block<w.heap.size:=by
 rcases h with ⟨rfl,_⟩ | ⟨b,off,rfl,hb,_⟩
 ·omega
 ·exact hb
structure VecsR (n outs:Int) (o c:List (List Int)) (r:Int):Prop where
 many:o.length<1∨1024<o.length→r=5
 out:¬(o.length<1∨1024<o.length)→∀(x:Int) (j:Nat),Zeros (outE n outs o) j→outE n outs o j=x→x≠0→j<o.length→r=x
 calm:¬(o.length<1∨1024<o.length)→Zeros (outE n outs o) o.length→∀(x:Int) (j:Nat),Zeros (calmE o c) j→calmE o c j=x→x≠0→j<c.length→r=x
 fine:¬(o.length<1∨1024<o.length)→Zeros (outE n outs o) o.length→Zeros (calmE o c) c.length→r=0
theorem vecsR (n outs:Int) (c:CaseD):VecsR n outs c.out c.calm (vecsE n outs c):=by
 refine ⟨fun h=>?_,fun h x j hz hx h0 hj=>?_,fun h hz x j hy hx h0 hj=>?_,fun h hz hy=>?_⟩
 ·unfold vecsE;rw[if_pos h]
 ·unfold vecsE;rw[if_neg h,hz.stop hx h0 hj,if_neg h0]
 ·unfold vecsE;rw[if_neg h,hz.done (Nat.le_refl _),if_pos rfl,hy.stop hx h0 hj]
 ·unfold vecsE;rw[if_neg h,hz.done (Nat.le_refl _),if_pos rfl,hy.done (Nat.le_refl _)]
theorem YZ {n outs:Int} {o:List (List Int)} {j:Nat} {e:Int} (he:vecE (nthL o j) n outs=e) (h0:e≠0):outE n outs o j=e:=by unfold outE;rw[he,if_neg h0]
theorem zal {n outs:Int} {o:List (List Int)} {j:Nat} (he:vecE (nthL o j) n outs=0) (h0:unord o j=true):outE n outs o j=14:=by unfold outE;rw[he,if_pos rfl,h0];rfl
theorem Zz {n outs:Int} {o:List (List Int)} {j:Nat} (he:vecE (nthL o j) n outs=0) (h0:unord o j=false):outE n outs o j=0:=by unfold outE;rw[he,if_pos rfl,h0];rfl
theorem Zs {o l:List (List Int)} {j:Nat} (he:decide (nthL l j∈o)=false):calmE o l j=6:=by unfold calmE;rw[he];rfl
theorem YF {o l:List (List Int)} {j:Nat} (he:decide (nthL l j∈o)=true) (h0:unord l j=true):calmE o l j=14:=by unfold calmE;rw[he,h0];rfl
theorem xC {o l:List (List Int)} {j:Nat} (he:decide (nthL l j∈o)=true) (h0:unord l j=false):calmE o l j=0:=by unfold calmE;rw[he,h0];rfl
theorem qH (l:List (List Int)):unord l 0=false:=by unfold unord;simp
theorem xu {l:List (List Int)} {j k:Nat} (hj:j=k - 1) (h:0<k) {c:Int} (hc:ordL (nthL l j) (nthL l k)=c):unord l k=decide (0≤c):=by subst hj;unfold unord;rw[hc];simp[h]
structure CaseR (n ins outs:Int) (l:List CaseD) (k:Nat) (r:Int):Prop where
 bad:∀e,vecE (nthC l k).inn n ins=e→e≠0→r=e
 un:vecE (nthC l k).inn n ins=0→0<k→∀j,j=k - 1→0≤ordL (nthC l j).inn (nthC l k).inn→r=14
 rest:vecE (nthC l k).inn n ins=0→(0<k→∀j,j=k - 1→¬0≤ordL (nthC l j).inn (nthC l k).inn)→r=vecsE n outs (nthC l k)
theorem caseR (n ins outs:Int) (l:List CaseD) (k:Nat):CaseR n ins outs l k (caseE n ins outs l k):=by
 refine ⟨fun e he h0=>?_,fun he hk j hj h=>?_,fun he h=>?_⟩
 ·unfold caseE;rw[he,if_neg h0]
 ·subst hj;unfold caseE;rw[he,if_pos rfl];simp[hk,h]
 ·unfold caseE;rw[he,if_pos rfl]
  by_cases hk:0<k
  ·have:=h hk _ rfl
   simp[this]
  ·simp[hk]
theorem za0 (w:World) (u1 u2 u3 n ins outs x:Value):
  Below w.heap.size w ((w.alloc (.cells #[n,ins,outs,x] 24)).alloc (.cells #[u1,u2,u3] 62))∧
  Row ((w.alloc (.cells #[n,ins,outs,x] 24)).alloc (.cells #[u1,u2,u3] 62)) w.heap.size 24 [n,ins,outs,x]∧
  Row ((w.alloc (.cells #[n,ins,outs,x] 24)).alloc (.cells #[u1,u2,u3] 62)) (w.heap.size+1) 62 [u1,u2,u3]:=by
 refine ⟨zg (zb w _) _,(ze w [n,ins,outs,x] _).alloc _,?_⟩
 have:=ze (w.alloc (.cells #[n,ins,outs,x] 24)) [u1,u2,u3] 62
 rwa [World.size_alloc]at this
theorem zbb {S:Nat→Prop} {w:World} {vc:Value} {l:List CaseD} (n ins outs:Int) (hv:Sl kCase S w vc l) {k:Nat} (hk:k<l.length):
  Calls Tryz.prog 127 #[.agg #[.int .i64 n,.int .i64 ins,.int .i64 outs,vc],.int .i64 k] w (Post w fun _ r=>r=.int .i64 (caseE n ins outs l k)):=by
 obtain ⟨ca,cc,rfl,cad,lol,lml⟩:=hv.form
 unfold maxLen at lml
 obtain ⟨v1,v2,v3,kc1,kc2,kc3,hin,hou,hca⟩:=hv.case hk
 have HPV:Hid (∀j,j<l.length→∃u,w.cell? (adr ca (j * 3))=some u∧Ints S w u (nthC l j).inn):=zhd fun j hj=>by
  obtain ⟨u1,_,_,h1,_,_,h2,_⟩:=hv.case hj
  exact ⟨u1,h1,h2⟩
 obtain ⟨ic,hic,hic1⟩:=zL (T:=62) (z:=3) (by kernel_rfl)
 obtain ⟨i0,hi,hz0,hz1,hz2⟩:=info_parts zF
 have QC:=zhd (zJ Tryz.underlying22 hic hic1 cad)
 obtain ⟨a1,c1,rfl,_⟩:=hin.form
 obtain ⟨a2,c2,rfl,ad2,lo2,lm2⟩:=hou.form
 obtain ⟨a3,c3,rfl,ad3,lo3,lm3⟩:=hca.form
 unfold maxLen at lm2 lm3
 have Q2:=zhd (zz Tryz.underlying47 hi hz1 ad2)
 have Q3:=zhd (zz Tryz.underlying47 hi hz1 ad3)
 have HIN:=zhd hin
 have HOU:=zhd hou
 have HCA:=zhd hca
 have HCR:=zhd (caseR n ins outs l k)
 have HVR:=zhd (vecsR n outs (nthC l k))
 obtain ⟨r,hr⟩:∃r,r=caseE n ins outs l k:=⟨_,rfl⟩
 rw[←hr]at HCR ⊢
 obtain ⟨inn,hinn⟩:∃x,x=(nthC l k).inn:=⟨_,rfl⟩
 obtain ⟨ol,hol⟩:∃x,x=(nthC l k).out:=⟨_,rfl⟩
 obtain ⟨cl,hcl⟩:∃x,x=(nthC l k).calm:=⟨_,rfl⟩
 have HINN:=zhd hinn
 rw[←hinn]at HIN kc1
 rw[←hol]at HOU HVR Q2 lo2 kc2
 rw[←hcl]at HCA HVR Q3 lo3 kc3
 have hqk:=QC.out k hk
 have hbk:=zI cad (show 0<l.length by omega) (k * 3)
 clear hr hinn hol hcl hin hou hca hi hz0 hz1 hz2 hv cad ad2 ad3 hic hic1
 obtain ⟨hbx,RT,RC⟩:=za0 w (.slice a1 inn.length c1) (.slice a2 ol.length c2) (.slice a3 cl.length c3) (.int .i64 n) (.int .i64 ins) (.int .i64 outs) (.slice ca l.length cc)
 have RT:=zhd RT
 have RC:=zhd RC
 have KV:=zhd fun W (hW:Below w.heap.size w W)=>((Zn (HIN.out.ext hW) n ins).mono fun _ _ h=>h.take)
 obtain ⟨e1,he1⟩:∃e,e=vecE inn n ins:=⟨_,rfl⟩
 rw[←he1]at KV
 have HE1:Hid (vecE (nthC l k).inn n ins=e1):=zhd (by rw[he1,HINN.out])
 clear he1
 go_enter Tryz.func127,Tryz.ntmps127
 go_wp2_with fail
 obtain ⟨wA,hwA⟩:∃wA,wA=(w.alloc (.cells #[.int .i64 n,.int .i64 ins,.int .i64 outs,.slice ca l.length cc] 24)).alloc (.cells #[.slice a1 inn.length c1,.slice a2 ol.length c2,.slice a3 cl.length c3] 62):=⟨_,rfl⟩
 rw[←hwA]at hbx RT RC ⊢
 refine (KV.out _ hbx).mono ?_
 rintro _ w1 ⟨_,rfl,hq1,rfl⟩
 clear hwA kc1 kc2 kc3 hqk hbk KV
 by_cases h0:e1=0
 case neg=>
  have RR:=zhd (HCR.out.bad e1 HE1.out h0)
  have d0:(e1 !=0)=true:=by simp[h0]
  clear h0
  go_wp2
  go_ret
  exact .mk (za hbx hq1.ext) (zi RR.out.symm)
 subst h0
 have bel1:=za hbx hq1.ext
 have REST:Hid (¬(0<k∧∀j,j=k - 1→0≤ordL (nthC l j).inn inn)→r=vecsE n outs (nthC l k)):=zhd fun h=>HCR.out.rest HE1.out fun hk0 j hj hle=>h ⟨hk0,fun j' hj'=>by subst hj hj';rw[HINN.out];exact hle⟩
 have t0:=(RT.out.ext hq1.ext).zc 0 rfl
 have t1:=(RT.out.ext hq1.ext).zc 1 rfl
 have t2:=(RT.out.ext hq1.ext).zc 2 rfl
 have t3:=(RT.out.ext hq1.ext).zc 3 rfl
 have k0:=(RC.out.ext hq1.ext).zc 0 rfl
 have k1:=(RC.out.ext hq1.ext).zc 1 rfl
 have k2:=(RC.out.ext hq1.ext).zc 2 rfl
 have cut:∀(T:Code),True:=fun _=>trivial
 clear cut
 by_cases hk0:0<k
 case pos=>
  obtain ⟨j,hj⟩:∃j,j=k - 1:=⟨_,rfl⟩
  have hjl:j<l.length:=by omega
  have q1:=QC.out j hjl
  obtain ⟨u,cu,iu⟩:=HPV.out j hjl
  have cu1:=zm cu bel1
  have iu1:=iu.ext bel1
  have KO:Hid (∀m,Calls Tryz.prog 142 #[u,.slice a1 inn.length c1] (w1.drewN m) (QuietP (w1.drewN m) (.int .i64 (ordL (nthC l j).inn inn)))):=zhd fun m=>qB (iu1.drewN m) ((HIN.out.ext bel1).drewN m)
  obtain ⟨c,hc⟩:∃c,c=ordL (nthC l j).inn inn:=⟨_,rfl⟩
  rw[←hc]at KO
  have w1':IntKind.i64.wrap ((k:Int) - 1)=j:=by rw[IntKind.wrap_i64];omega
  have w2':decide ((0:Int)<(k:Int))=true:=decide_eq_true (by omega)
  have w3':decide (0<k)=true:=decide_eq_true hk0
  have w4':(0:Int)≤(j:Int):=by omega
  have w5':(j:Int)<(l.length:Int):=by omega
  have HUN:Hid (0≤c→r=14):=zhd fun h=>HCR.out.un HE1.out hk0 j hj (by rw[←HINN.out,←hc];exact h)
  have HRE:Hid (¬0≤c→r=vecsE n outs (nthC l k)):=zhd fun h=>REST.out fun h'=>h (by rw[hc];exact h'.2 j hj)
  clear hc hj iu iu1 cu
  by_cases hc0:0≤c
  case pos=>
   have RR:=zhd (HUN.out hc0)
   go_wp2
   go_quiet ((go_at_call 142;exact zr (KO.out _)))
   go_wp2
   go_ret
   exact .mk (zx bel1 _) (zi RR.out.symm)
  have RV:=zhd (HRE.out hc0)
  go_wp2
  go_quiet ((go_at_call 142;exact zr (KO.out _)))
  refine zK fun w2 hq2=>?_
  clear t0 t1 t2 t3 k0 k1 k2
  clear q1 cu1 KO w1' w4' w5'
  have hQ:=hq1.trans hq2
  rw[←RV.out]at HVR
  clear RV HRE HUN REST HCR HE1 HPV
  have t0:=(RT.out.ext hQ.ext).zc 0 rfl
  have t1:=(RT.out.ext hQ.ext).zc 1 rfl
  have t2:=(RT.out.ext hQ.ext).zc 2 rfl
  have t3:=(RT.out.ext hQ.ext).zc 3 rfl
  have k0:=(RC.out.ext hQ.ext).zc 0 rfl
  have k1:=(RC.out.ext hQ.ext).zc 1 rfl
  have k2:=(RC.out.ext hQ.ext).zc 2 rfl
  by_cases hm:ol.length<1∨1024<ol.length
  case pos=>
   have RR:=zhd (HVR.out.many hm)
   rcases hm with hm | hm
   ·go_wp2
    go_ret
    exact .mk (za hbx hQ.ext) (zi RR.out.symm)
   ·have hm2:¬ol.length<1:=by omega
    go_wp2
    go_ret
    exact .mk (za hbx hQ.ext) (zi RR.out.symm)
  have HM:=zhd hm
  have hm1:¬ol.length<1:=by omega
  have hm2:¬1024<ol.length:=by omega
  clear hm
  go_wp2
  clear t0 t1 t2 t3 k0 k1 k2
  go_loopw [7] (fun i wr=>∃j:Nat,j≤ol.length∧i=.int .i64 j∧QW wA wr∧Hid (Zeros (outE n outs ol) j)) (fun i _=>ol.length - (intOf i).toNat)
  case atStart=>exact ⟨0,Nat.zero_le _,rfl,hQ,zhd (.zero _)⟩
  case round=>
   clear hq2 hQ
   obtain ⟨j,hj,rfl,hQ,HZ⟩:=hrel
   have t0:=(RT.out.ext hQ.ext).zc 0 rfl
   have t1:=(RT.out.ext hQ.ext).zc 1 rfl
   have t2:=(RT.out.ext hQ.ext).zc 2 rfl
   have t3:=(RT.out.ext hQ.ext).zc 3 rfl
   have k0:=(RC.out.ext hQ.ext).zc 0 rfl
   have k1:=(RC.out.ext hQ.ext).zc 1 rfl
   have k2:=(RC.out.ext hQ.ext).zc 2 rfl
   by_cases hlt:j<ol.length
   ·have q:=Q2.out j hlt
    have bel:=za hbx hQ.ext
    obtain ⟨u,cu,iu⟩:=HOU.out.at bel hlt
    have KV:Hid (∀m,Calls Tryz.prog 141 #[u,.int .i64 n,.int .i64 outs] (wr.drewN m) (QuietP (wr.drewN m) (.int .i64 (vecE (nthL ol j) n outs)))):=zhd fun m=>Zn (iu.drewN m) n outs
    obtain ⟨e,he⟩:∃e,e=vecE (nthL ol j) n outs:=⟨_,rfl⟩
    rw[←he]at KV
    have HE:=zhd he.symm
    have w4:(0:Int)≤(j:Int):=by omega
    have w5:(j:Int)<(ol.length:Int):=by omega
    clear he
    by_cases h0:e=0
    case neg=>
     have RR:=zhd (HVR.out.out HM.out e j HZ.out (YZ HE.out h0) h0 hlt)
     have d0:(e !=0)=true:=by simp[h0]
     clear h0
     go_wp2
     go_quiet ((go_at_call 141;exact zr (KV.out _)))
     go_wp2
     go_ret
     exact .mk (zx bel _) (zi RR.out.symm)
    subst h0
    go_wp2
    go_quiet ((go_at_call 141;exact zr (KV.out _)))
    refine zK fun w3 hq3=>?_
    clear t0 t1 t2 t3 k0 k1 k2
    clear KV cu
    have hQ3:=hQ.trans hq3
    have t0:=(RT.out.ext hQ3.ext).zc 0 rfl
    have t1:=(RT.out.ext hQ3.ext).zc 1 rfl
    have t2:=(RT.out.ext hQ3.ext).zc 2 rfl
    have t3:=(RT.out.ext hQ3.ext).zc 3 rfl
    have k0:=(RC.out.ext hQ3.ext).zc 0 rfl
    have k1:=(RC.out.ext hQ3.ext).zc 1 rfl
    have k2:=(RC.out.ext hQ3.ext).zc 2 rfl
    by_cases hj0:0<j
    ·obtain ⟨i,hi⟩:∃i,i=j - 1:=⟨_,rfl⟩
     have hil:i<ol.length:=by omega
     have q1:=Q2.out i hil
     have bel3:=za hbx hQ3.ext
     obtain ⟨u1,cu1,iu1⟩:=HOU.out.at bel3 hil
     obtain ⟨u2,cu2,iu2⟩:=HOU.out.at bel3 hlt
     have KO:Hid (∀m,Calls Tryz.prog 142 #[u1,u2] (w3.drewN m) (QuietP (w3.drewN m) (.int .i64 (ordL (nthL ol i) (nthL ol j))))):=zhd fun m=>qB (iu1.drewN m) (iu2.drewN m)
     obtain ⟨c,hc⟩:∃c,c=ordL (nthL ol i) (nthL ol j):=⟨_,rfl⟩
     rw[←hc]at KO
     have HU:=zhd (xu hi hj0 hc.symm)
     have w1':IntKind.i64.wrap ((j:Int) - 1)=i:=by rw[IntKind.wrap_i64];omega
     have w2':decide ((0:Int)<(j:Int))=true:=decide_eq_true (by omega)
     have w3':decide (0<j)=true:=decide_eq_true hj0
     have w4':(0:Int)≤(i:Int):=by omega
     have w5':(i:Int)<(ol.length:Int):=by omega
     clear hc hi iu1 iu2 iu
     by_cases hc0:0≤c
     ·have RR:=zhd (HVR.out.out HM.out 14 j HZ.out (zal HE.out (by rw[HU.out];exact decide_eq_true hc0)) (by decide) hlt)
      go_wp2
      go_quiet ((go_at_call 142;exact zr (KO.out _)))
      go_wp2
      go_ret
      exact .mk (zx bel3 _) (zi RR.out.symm)
     ·have HZ2:=zhd (HZ.out.next (Zz HE.out (by rw[HU.out];exact decide_eq_false hc0)))
      go_wp2
      go_quiet ((go_at_call 142;exact zr (KO.out _)))
      go_wp2
      clear w1'
      go_roundw
      case rel=>exact ⟨j+1,by omega,by go_num,hQ3.drewN _,HZ2⟩
      case measure=>simp[intOf];omega
    ·obtain rfl:j=0:=by omega
     have HZ2:=zhd (HZ.out.next (Zz HE.out (qH ol)))
     have w2':decide ((0:Int)<((0:Nat):Int))=false:=by simp
     go_wp2
     go_quiet (fail)
     go_wp2
     go_roundw
     case rel=>exact ⟨1,by omega,rfl,hQ3.drewN _,HZ2⟩
     case measure=>simp[intOf];omega
   ·obtain rfl:j=ol.length:=by omega
    have HZO:=zhd HZ.out
    go_wp2
    clear t0 t1 t2 t3 k0 k1 k2
    clear HZ hlt hj
    go_loopw [9] (fun i wr=>∃j:Nat,j≤cl.length∧i=.int .i64 j∧QW wA wr∧Hid (Zeros (calmE ol cl) j)) (fun i _=>cl.length - (intOf i).toNat)
    case atStart=>exact ⟨0,Nat.zero_le _,rfl,hQ,zhd (.zero _)⟩
    case round=>
     clear hQ
     obtain ⟨j,hj,rfl,hQ,HZ⟩:=hrel
     have t0:=(RT.out.ext hQ.ext).zc 0 rfl
     have t1:=(RT.out.ext hQ.ext).zc 1 rfl
     have t2:=(RT.out.ext hQ.ext).zc 2 rfl
     have t3:=(RT.out.ext hQ.ext).zc 3 rfl
     have k0:=(RC.out.ext hQ.ext).zc 0 rfl
     have k1:=(RC.out.ext hQ.ext).zc 1 rfl
     have k2:=(RC.out.ext hQ.ext).zc 2 rfl
     by_cases hlt:j<cl.length
     ·have q:=Q3.out j hlt
      have bel:=za hbx hQ.ext
      obtain ⟨u,cu,iu⟩:=HCA.out.at bel hlt
      have KV:Hid (∀m,Calls Tryz.prog 143 #[.slice a2 ol.length c2,u] (wr.drewN m) (QuietP (wr.drewN m) (.bool (decide (nthL cl j∈ol))))):=zhd fun m=>zd5 ((HOU.out.ext bel).agree (zq _ _ m)) (iu.drewN m)
      obtain ⟨b,he⟩:∃e,e=decide (nthL cl j∈ol):=⟨_,rfl⟩
      rw[←he]at KV
      have HE:=zhd he.symm
      have w4:(0:Int)≤(j:Int):=by omega
      have w5:(j:Int)<(cl.length:Int):=by omega
      clear he
      cases b with
      | false=>
       have RR:=zhd (HVR.out.calm HM.out HZO.out 6 j HZ.out (Zs HE.out) (by decide) hlt)
       go_wp2
       go_quiet ((go_at_call 143;exact zr (KV.out _)))
       go_wp2
       go_ret
       exact .mk (zx bel _) (zi RR.out.symm)
      | true=>
       go_wp2
       go_quiet ((go_at_call 143;exact zr (KV.out _)))
       refine zK fun w3 hq3=>?_
       clear t0 t1 t2 t3 k0 k1 k2
       clear KV cu
       have hQ3:=hQ.trans hq3
       have t0:=(RT.out.ext hQ3.ext).zc 0 rfl
       have t1:=(RT.out.ext hQ3.ext).zc 1 rfl
       have t2:=(RT.out.ext hQ3.ext).zc 2 rfl
       have t3:=(RT.out.ext hQ3.ext).zc 3 rfl
       have k0:=(RC.out.ext hQ3.ext).zc 0 rfl
       have k1:=(RC.out.ext hQ3.ext).zc 1 rfl
       have k2:=(RC.out.ext hQ3.ext).zc 2 rfl
       by_cases hj0:0<j
       ·obtain ⟨i,hi⟩:∃i,i=j - 1:=⟨_,rfl⟩
        have hil:i<cl.length:=by omega
        have q1:=Q3.out i hil
        have bel3:=za hbx hQ3.ext
        obtain ⟨u1,cu1,iu1⟩:=HCA.out.at bel3 hil
        obtain ⟨u2,cu2,iu2⟩:=HCA.out.at bel3 hlt
        have KO:Hid (∀m,Calls Tryz.prog 142 #[u1,u2] (w3.drewN m) (QuietP (w3.drewN m) (.int .i64 (ordL (nthL cl i) (nthL cl j))))):=zhd fun m=>qB (iu1.drewN m) (iu2.drewN m)
        obtain ⟨c,hc⟩:∃c,c=ordL (nthL cl i) (nthL cl j):=⟨_,rfl⟩
        rw[←hc]at KO
        have HU:=zhd (xu hi hj0 hc.symm)
        have w1':IntKind.i64.wrap ((j:Int) - 1)=i:=by rw[IntKind.wrap_i64];omega
        have w2':decide ((0:Int)<(j:Int))=true:=decide_eq_true (by omega)
        have w3':decide (0<j)=true:=decide_eq_true hj0
        have w4':(0:Int)≤(i:Int):=by omega
        have w5':(i:Int)<(cl.length:Int):=by omega
        clear hc hi iu1 iu2 iu
        by_cases hc0:0≤c
        ·have RR:=zhd (HVR.out.calm HM.out HZO.out 14 j HZ.out (YF HE.out (by rw[HU.out];exact decide_eq_true hc0)) (by decide) hlt)
         go_wp2
         go_quiet ((go_at_call 142;exact zr (KO.out _)))
         go_wp2
         go_ret
         exact .mk (zx bel3 _) (zi RR.out.symm)
        ·have HZ2:=zhd (HZ.out.next (xC HE.out (by rw[HU.out];exact decide_eq_false hc0)))
         go_wp2
         go_quiet ((go_at_call 142;exact zr (KO.out _)))
         go_wp2
         clear w1'
         go_roundw
         case rel=>exact ⟨j+1,by omega,by go_num,hQ3.drewN _,HZ2⟩
         case measure=>simp[intOf];omega
       ·obtain rfl:j=0:=by omega
        have HZ2:=zhd (HZ.out.next (xC HE.out (qH cl)))
        have w2':decide ((0:Int)<((0:Nat):Int))=false:=by simp
        go_wp2
        go_quiet (fail)
        go_wp2
        go_roundw
        case rel=>exact ⟨1,by omega,rfl,hQ3.drewN _,HZ2⟩
        case measure=>simp[intOf];omega
     ·obtain rfl:j=cl.length:=by omega
      have RR:=zhd (HVR.out.fine HM.out HZO.out HZ.out)
      go_wp2
      go_ret
      exact .mk (za hbx hQ.ext) (zi RR.out.symm)
 case neg=>
  obtain rfl:k=0:=by omega
  have RV:=zhd (REST.out fun h=>by omega)
  have w2':decide ((0:Int)<((0:Nat):Int))=false:=by simp
  go_wp2
  go_quiet (fail)
  refine zK fun w2 hq2=>?_
  clear t0 t1 t2 t3 k0 k1 k2
  have hQ:=hq1.trans hq2
  rw[←RV.out]at HVR
  clear RV REST HCR HE1 HPV
  have t0:=(RT.out.ext hQ.ext).zc 0 rfl
  have t1:=(RT.out.ext hQ.ext).zc 1 rfl
  have t2:=(RT.out.ext hQ.ext).zc 2 rfl
  have t3:=(RT.out.ext hQ.ext).zc 3 rfl
  have k0:=(RC.out.ext hQ.ext).zc 0 rfl
  have k1:=(RC.out.ext hQ.ext).zc 1 rfl
  have k2:=(RC.out.ext hQ.ext).zc 2 rfl
  by_cases hm:ol.length<1∨1024<ol.length
  case pos=>
   have RR:=zhd (HVR.out.many hm)
   rcases hm with hm | hm
   ·go_wp2
    go_ret
    exact .mk (za hbx hQ.ext) (zi RR.out.symm)
   ·have hm2:¬ol.length<1:=by omega
    go_wp2
    go_ret
    exact .mk (za hbx hQ.ext) (zi RR.out.symm)
  have HM:=zhd hm
  have hm1:¬ol.length<1:=by omega
  have hm2:¬1024<ol.length:=by omega
  clear hm
  go_wp2
  clear t0 t1 t2 t3 k0 k1 k2
  go_loopw [7] (fun i wr=>∃j:Nat,j≤ol.length∧i=.int .i64 j∧QW wA wr∧Hid (Zeros (outE n outs ol) j)) (fun i _=>ol.length - (intOf i).toNat)
  case atStart=>exact ⟨0,Nat.zero_le _,rfl,hQ,zhd (.zero _)⟩
  case round=>
   clear hq2 hQ
   obtain ⟨j,hj,rfl,hQ,HZ⟩:=hrel
   have t0:=(RT.out.ext hQ.ext).zc 0 rfl
   have t1:=(RT.out.ext hQ.ext).zc 1 rfl
   have t2:=(RT.out.ext hQ.ext).zc 2 rfl
   have t3:=(RT.out.ext hQ.ext).zc 3 rfl
   have k0:=(RC.out.ext hQ.ext).zc 0 rfl
   have k1:=(RC.out.ext hQ.ext).zc 1 rfl
   have k2:=(RC.out.ext hQ.ext).zc 2 rfl
   by_cases hlt:j<ol.length
   ·have q:=Q2.out j hlt
    have bel:=za hbx hQ.ext
    obtain ⟨u,cu,iu⟩:=HOU.out.at bel hlt
    have KV:Hid (∀m,Calls Tryz.prog 141 #[u,.int .i64 n,.int .i64 outs] (wr.drewN m) (QuietP (wr.drewN m) (.int .i64 (vecE (nthL ol j) n outs)))):=zhd fun m=>Zn (iu.drewN m) n outs
    obtain ⟨e,he⟩:∃e,e=vecE (nthL ol j) n outs:=⟨_,rfl⟩
    rw[←he]at KV
    have HE:=zhd he.symm
    have w4:(0:Int)≤(j:Int):=by omega
    have w5:(j:Int)<(ol.length:Int):=by omega
    clear he
    by_cases h0:e=0
    case neg=>
     have RR:=zhd (HVR.out.out HM.out e j HZ.out (YZ HE.out h0) h0 hlt)
     have d0:(e !=0)=true:=by simp[h0]
     clear h0
     go_wp2
     go_quiet ((go_at_call 141;exact zr (KV.out _)))
     go_wp2
     go_ret
     exact .mk (zx bel _) (zi RR.out.symm)
    subst h0
    go_wp2
    go_quiet ((go_at_call 141;exact zr (KV.out _)))
    refine zK fun w3 hq3=>?_
    clear t0 t1 t2 t3 k0 k1 k2
    clear KV cu
    have hQ3:=hQ.trans hq3
    have t0:=(RT.out.ext hQ3.ext).zc 0 rfl
    have t1:=(RT.out.ext hQ3.ext).zc 1 rfl
    have t2:=(RT.out.ext hQ3.ext).zc 2 rfl
    have t3:=(RT.out.ext hQ3.ext).zc 3 rfl
    have k0:=(RC.out.ext hQ3.ext).zc 0 rfl
    have k1:=(RC.out.ext hQ3.ext).zc 1 rfl
    have k2:=(RC.out.ext hQ3.ext).zc 2 rfl
    by_cases hj0:0<j
    ·obtain ⟨i,hi⟩:∃i,i=j - 1:=⟨_,rfl⟩
     have hil:i<ol.length:=by omega
     have q1:=Q2.out i hil
     have bel3:=za hbx hQ3.ext
     obtain ⟨u1,cu1,iu1⟩:=HOU.out.at bel3 hil
     obtain ⟨u2,cu2,iu2⟩:=HOU.out.at bel3 hlt
     have KO:Hid (∀m,Calls Tryz.prog 142 #[u1,u2] (w3.drewN m) (QuietP (w3.drewN m) (.int .i64 (ordL (nthL ol i) (nthL ol j))))):=zhd fun m=>qB (iu1.drewN m) (iu2.drewN m)
     obtain ⟨c,hc⟩:∃c,c=ordL (nthL ol i) (nthL ol j):=⟨_,rfl⟩
     rw[←hc]at KO
     have HU:=zhd (xu hi hj0 hc.symm)
     have w1':IntKind.i64.wrap ((j:Int) - 1)=i:=by rw[IntKind.wrap_i64];omega
     have w2':decide ((0:Int)<(j:Int))=true:=decide_eq_true (by omega)
     have w3':decide (0<j)=true:=decide_eq_true hj0
     have w4':(0:Int)≤(i:Int):=by omega
     have w5':(i:Int)<(ol.length:Int):=by omega
     clear hc hi iu1 iu2 iu
     by_cases hc0:0≤c
     ·have RR:=zhd (HVR.out.out HM.out 14 j HZ.out (zal HE.out (by rw[HU.out];exact decide_eq_true hc0)) (by decide) hlt)
      go_wp2
      go_quiet ((go_at_call 142;exact zr (KO.out _)))
      go_wp2
      go_ret
      exact .mk (zx bel3 _) (zi RR.out.symm)
     ·have HZ2:=zhd (HZ.out.next (Zz HE.out (by rw[HU.out];exact decide_eq_false hc0)))
      go_wp2
      go_quiet ((go_at_call 142;exact zr (KO.out _)))
      go_wp2
      clear w1'
      go_roundw
      case rel=>exact ⟨j+1,by omega,by go_num,hQ3.drewN _,HZ2⟩
      case measure=>simp[intOf];omega
    ·obtain rfl:j=0:=by omega
     have HZ2:=zhd (HZ.out.next (Zz HE.out (qH ol)))
     have w2':decide ((0:Int)<((0:Nat):Int))=false:=by simp
     go_wp2
     go_quiet (fail)
     go_wp2
     go_roundw
     case rel=>exact ⟨1,by omega,rfl,hQ3.drewN _,HZ2⟩
     case measure=>simp[intOf];omega
   ·obtain rfl:j=ol.length:=by omega
    have HZO:=zhd HZ.out
    go_wp2
    clear t0 t1 t2 t3 k0 k1 k2
    clear HZ hlt hj
    go_loopw [9] (fun i wr=>∃j:Nat,j≤cl.length∧i=.int .i64 j∧QW wA wr∧Hid (Zeros (calmE ol cl) j)) (fun i _=>cl.length - (intOf i).toNat)
    case atStart=>exact ⟨0,Nat.zero_le _,rfl,hQ,zhd (.zero _)⟩
    case round=>
     clear hQ
     obtain ⟨j,hj,rfl,hQ,HZ⟩:=hrel
     have t0:=(RT.out.ext hQ.ext).zc 0 rfl
     have t1:=(RT.out.ext hQ.ext).zc 1 rfl
     have t2:=(RT.out.ext hQ.ext).zc 2 rfl
     have t3:=(RT.out.ext hQ.ext).zc 3 rfl
     have k0:=(RC.out.ext hQ.ext).zc 0 rfl
     have k1:=(RC.out.ext hQ.ext).zc 1 rfl
     have k2:=(RC.out.ext hQ.ext).zc 2 rfl
     by_cases hlt:j<cl.length
     ·have q:=Q3.out j hlt
      have bel:=za hbx hQ.ext
      obtain ⟨u,cu,iu⟩:=HCA.out.at bel hlt
      have KV:Hid (∀m,Calls Tryz.prog 143 #[.slice a2 ol.length c2,u] (wr.drewN m) (QuietP (wr.drewN m) (.bool (decide (nthL cl j∈ol))))):=zhd fun m=>zd5 ((HOU.out.ext bel).agree (zq _ _ m)) (iu.drewN m)
      obtain ⟨b,he⟩:∃e,e=decide (nthL cl j∈ol):=⟨_,rfl⟩
      rw[←he]at KV
      have HE:=zhd he.symm
      have w4:(0:Int)≤(j:Int):=by omega
      have w5:(j:Int)<(cl.length:Int):=by omega
      clear he
      cases b with
      | false=>
       have RR:=zhd (HVR.out.calm HM.out HZO.out 6 j HZ.out (Zs HE.out) (by decide) hlt)
       go_wp2
       go_quiet ((go_at_call 143;exact zr (KV.out _)))
       go_wp2
       go_ret
       exact .mk (zx bel _) (zi RR.out.symm)
      | true=>
       go_wp2
       go_quiet ((go_at_call 143;exact zr (KV.out _)))
       refine zK fun w3 hq3=>?_
       clear t0 t1 t2 t3 k0 k1 k2
       clear KV cu
       have hQ3:=hQ.trans hq3
       have t0:=(RT.out.ext hQ3.ext).zc 0 rfl
       have t1:=(RT.out.ext hQ3.ext).zc 1 rfl
       have t2:=(RT.out.ext hQ3.ext).zc 2 rfl
       have t3:=(RT.out.ext hQ3.ext).zc 3 rfl
       have k0:=(RC.out.ext hQ3.ext).zc 0 rfl
       have k1:=(RC.out.ext hQ3.ext).zc 1 rfl
       have k2:=(RC.out.ext hQ3.ext).zc 2 rfl
       by_cases hj0:0<j
       ·obtain ⟨i,hi⟩:∃i,i=j - 1:=⟨_,rfl⟩
        have hil:i<cl.length:=by omega
        have q1:=Q3.out i hil
        have bel3:=za hbx hQ3.ext
        obtain ⟨u1,cu1,iu1⟩:=HCA.out.at bel3 hil
        obtain ⟨u2,cu2,iu2⟩:=HCA.out.at bel3 hlt
        have KO:Hid (∀m,Calls Tryz.prog 142 #[u1,u2] (w3.drewN m) (QuietP (w3.drewN m) (.int .i64 (ordL (nthL cl i) (nthL cl j))))):=zhd fun m=>qB (iu1.drewN m) (iu2.drewN m)
        obtain ⟨c,hc⟩:∃c,c=ordL (nthL cl i) (nthL cl j):=⟨_,rfl⟩
        rw[←hc]at KO
        have HU:=zhd (xu hi hj0 hc.symm)
        have w1':IntKind.i64.wrap ((j:Int) - 1)=i:=by rw[IntKind.wrap_i64];omega
        have w2':decide ((0:Int)<(j:Int))=true:=decide_eq_true (by omega)
        have w3':decide (0<j)=true:=decide_eq_true hj0
        have w4':(0:Int)≤(i:Int):=by omega
        have w5':(i:Int)<(cl.length:Int):=by omega
        clear hc hi iu1 iu2 iu
        by_cases hc0:0≤c
        ·have RR:=zhd (HVR.out.calm HM.out HZO.out 14 j HZ.out (YF HE.out (by rw[HU.out];exact decide_eq_true hc0)) (by decide) hlt)
         go_wp2
         go_quiet ((go_at_call 142;exact zr (KO.out _)))
         go_wp2
         go_ret
         exact .mk (zx bel3 _) (zi RR.out.symm)
        ·have HZ2:=zhd (HZ.out.next (xC HE.out (by rw[HU.out];exact decide_eq_false hc0)))
         go_wp2
         go_quiet ((go_at_call 142;exact zr (KO.out _)))
         go_wp2
         clear w1'
         go_roundw
         case rel=>exact ⟨j+1,by omega,by go_num,hQ3.drewN _,HZ2⟩
         case measure=>simp[intOf];omega
       ·obtain rfl:j=0:=by omega
        have HZ2:=zhd (HZ.out.next (xC HE.out (qH cl)))
        have w2':decide ((0:Int)<((0:Nat):Int))=false:=by simp
        go_wp2
        go_quiet (fail)
        go_wp2
        go_roundw
        case rel=>exact ⟨1,by omega,rfl,hQ3.drewN _,HZ2⟩
        case measure=>simp[intOf];omega
     ·obtain rfl:j=cl.length:=by omega
      have RR:=zhd (HVR.out.fine HM.out HZO.out HZ.out)
      go_wp2
      go_ret
      exact .mk (za hbx hQ.ext) (zi RR.out.symm)
structure TaskR (n ins outs:Int) (l:List CaseD) (r:Int):Prop where
 range:(n<1∨5<n∨ins<1∨8<ins∨outs<1∨8<outs)→r=2
 many:¬(n<1∨5<n∨ins<1∨8<ins∨outs<1∨8<outs)→(l.length<1∨1024<l.length)→r=5
 stop:¬(n<1∨5<n∨ins<1∨8<ins∨outs<1∨8<outs)→¬(l.length<1∨1024<l.length)→∀(x:Int) (j:Nat),Zeros (caseE n ins outs l) j→caseE n ins outs l j=x→x≠0→j<l.length→r=x
 fine:¬(n<1∨5<n∨ins<1∨8<ins∨outs<1∨8<outs)→¬(l.length<1∨1024<l.length)→Zeros (caseE n ins outs l) l.length→r=0
theorem taskR (n ins outs:Int) (l:List CaseD):TaskR n ins outs l (checkT n ins outs l):=by
 refine ⟨fun h=>?_,fun h h2=>?_,fun h h2 x j hz hx h0 hj=>?_,fun h h2 hz=>?_⟩
 ·unfold checkT;rw[if_pos h]
 ·unfold checkT;rw[if_neg h,if_pos h2]
 ·unfold checkT;rw[if_neg h,if_neg h2,hz.stop hx h0 hj]
 ·unfold checkT;rw[if_neg h,if_neg h2,hz.done (Nat.le_refl _)]
theorem Y7 {S:Nat→Prop} {w:World} {vc:Value} {l:List CaseD} (n ins outs:Int) (hv:Sl kCase S w vc l):
  Calls Tryz.prog 103 #[.agg #[.int .i64 n,.int .i64 ins,.int .i64 outs,vc]] w (Post w fun _ r=>r=.int .i64 (checkT n ins outs l)):=by
 have HTR:=zhd (taskR n ins outs l)
 obtain ⟨r,hr⟩:∃r,r=checkT n ins outs l:=⟨_,rfl⟩
 rw[←hr]at HTR ⊢
 have HV:=zhd hv
 obtain ⟨ca,cc,rfl,cad,lo,lm⟩:=hv.form
 unfold maxLen at lm
 clear hr hv
 have ex:=zb w (.cells #[.int .i64 n,.int .i64 ins,.int .i64 outs,.slice ca l.length cc] 24)
 have RT:Row (w.alloc (.cells #[.int .i64 n,.int .i64 ins,.int .i64 outs,.slice ca l.length cc] 24)) w.heap.size 24 [.int .i64 n,.int .i64 ins,.int .i64 outs,.slice ca l.length cc]:=ze w [_,_,_,_] _
 by_cases g0:n<1
 ·have RR:=zhd (HTR.out.range (by omega))
  go_enter Tryz.func103,Tryz.ntmps103
  go_wp2
  go_ret
  exact .mk ex (zi RR.out.symm)
 by_cases g1:5<n
 ·have RR:=zhd (HTR.out.range (by omega))
  go_enter Tryz.func103,Tryz.ntmps103
  go_wp2
  go_ret
  exact .mk ex (zi RR.out.symm)
 by_cases g2:ins<1
 ·have RR:=zhd (HTR.out.range (by omega))
  go_enter Tryz.func103,Tryz.ntmps103
  go_wp2
  go_ret
  exact .mk ex (zi RR.out.symm)
 by_cases g3:8<ins
 ·have RR:=zhd (HTR.out.range (by omega))
  go_enter Tryz.func103,Tryz.ntmps103
  go_wp2
  go_ret
  exact .mk ex (zi RR.out.symm)
 by_cases g4:outs<1
 ·have RR:=zhd (HTR.out.range (by omega))
  go_enter Tryz.func103,Tryz.ntmps103
  go_wp2
  go_ret
  exact .mk ex (zi RR.out.symm)
 by_cases g5:8<outs
 ·have RR:=zhd (HTR.out.range (by omega))
  go_enter Tryz.func103,Tryz.ntmps103
  go_wp2
  go_ret
  exact .mk ex (zi RR.out.symm)
 have HN:=zhd (show¬(n<1∨5<n∨ins<1∨8<ins∨outs<1∨8<outs) by omega)
 by_cases m0:l.length<1
 ·have RR:=zhd (HTR.out.many HN.out (.inl m0))
  go_enter Tryz.func103,Tryz.ntmps103
  go_wp2
  go_ret
  exact .mk ex (zi RR.out.symm)
 by_cases m1:1024<l.length
 ·have RR:=zhd (HTR.out.many HN.out (.inr m1))
  go_enter Tryz.func103,Tryz.ntmps103
  go_wp2
  go_ret
  exact .mk ex (zi RR.out.symm)
 have HM:=zhd (show¬(l.length<1∨1024<l.length) by omega)
 go_enter Tryz.func103,Tryz.ntmps103
 go_wp2
 clear g0 g1 g2 g3 g4 g5 m0
 go_loopw [3] (fun i wr=>∃k:Nat,k≤l.length∧i=.int .i64 k∧Below w.heap.size w wr∧Row wr w.heap.size 24 [.int .i64 n,.int .i64 ins,.int .i64 outs,.slice ca l.length cc]∧Hid (Zeros (caseE n ins outs l) k)) (fun i _=>l.length - (intOf i).toNat)
 case atStart=>exact ⟨0,Nat.zero_le _,rfl,ex,RT,zhd (.zero _)⟩
 case round=>
  clear ex RT
  obtain ⟨k,hk,rfl,hb,R,HZ⟩:=hrel
  have t0:=R.zc 0 rfl
  have t1:=R.zc 1 rfl
  have t2:=R.zc 2 rfl
  have t3:=R.zc 3 rfl
  by_cases hlt:k<l.length
  ·have KO:=zhd (zbb n ins outs (HV.out.ext hb) hlt)
   obtain ⟨e,he⟩:∃e,e=caseE n ins outs l k:=⟨_,rfl⟩
   rw[←he]at KO
   have HE:=zhd he.symm
   clear he
   go_wp2_with fail
   refine KO.out.mono ?_
   rintro _ w1 ⟨_,rfl,hb1,rfl⟩
   have hb2:=za hb hb1
   have R2:=R.ext hb1
   clear t0 t1 t2 t3 KO
   by_cases h0:e=0
   ·subst h0
    have HZ2:=zhd (HZ.out.next HE.out)
    go_wp2
    go_roundw
    case rel=>exact ⟨k+1,by omega,by go_num,hb2,R2,HZ2⟩
    case measure=>simp[intOf];omega
   ·have RR:=zhd (HTR.out.stop HN.out HM.out e k HZ.out HE.out h0 hlt)
    have d0:(e !=0)=true:=by simp[h0]
    clear h0
    go_wp2
    go_ret
    exact .mk hb2 (zi RR.out.symm)
  ·obtain rfl:k=l.length:=by omega
   have RR:=zhd (HTR.out.fine HN.out HM.out HZ.out)
   go_wp2
   go_ret
   exact .mk hb (zi RR.out.symm)
end Go.Proofs.YtjpakklplhabdaaGreat
