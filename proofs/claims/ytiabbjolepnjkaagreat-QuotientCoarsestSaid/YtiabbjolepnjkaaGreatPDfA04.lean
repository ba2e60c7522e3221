/- Part of the proof that the laws answer true for every input. -/
import Derived.Test.YtiabbjolepnjkaaGreatPDfA03
set_option linter.unusedSimpArgs false
set_option linter.unnecessarySimpa false
set_option linter.unusedVariables false
set_option maxRecDepth 100000
set_option maxHeartbeats 40000000
namespace Go.Proofs.YtiabbjolepnjkaaGreat
open Go.RowKit
attribute [local go_sem ↓] Go.wp_at_zero Go.wp_at_succ
theorem zU {K:Act→World→Prop} {Q:Exit→Act→World→Prop} {e:Exit} {a:Act} {w:World} {n:Nat} (h:∀w',QW w w'→Exit.then K Q e a w'):Exit.then K Q e a (w.drewN n):=h _ ⟨n,rfl⟩
theorem zZ {S:Nat→Prop} {w:World} {a:Option Addr} {n cap:Nat} (h:Ad S w a n cap) (hn:0<n) (j:Nat):(adr a j).block<w.heap.size:=by
 rcases h with ⟨rfl,_⟩ | ⟨b,off,rfl,hb,_⟩
 ·omega
 ·exact hb
structure VecsR (n outs:Int) (o c:List (List Int)) (r:Int):Prop where
 many:o.length<1∨1024<o.length→r=5
 out:¬(o.length<1∨1024<o.length)→∀(x:Int) (j:Nat),Zeros (outE n outs o) j→outE n outs o j=x→x≠0→j<o.length→r=x
 calm:¬(o.length<1∨1024<o.length)→Zeros (outE n outs o) o.length→∀(x:Int) (j:Nat),Zeros (calmE o c) j→calmE o c j=x→x≠0→j<c.length→r=x
 fine:¬(o.length<1∨1024<o.length)→Zeros (outE n outs o) o.length→Zeros (calmE o c) c.length→r=0
theorem vecsR (n outs:Int) (c:CaseD):VecsR n outs c.out c.calm (vecsE n outs c):=by
 refine ⟨fun h=>?_,fun h x j hz hx h0 hj=>?_,fun h hz x j hy hx h0 hj=>?_,fun h hz hy=>?_⟩
 ·unfold vecsE;rw[if_pos h]
 ·unfold vecsE;rw[if_neg h,hz.stop hx h0 hj,if_neg h0]
 ·unfold vecsE;rw[if_neg h,hz.done (Nat.le_refl _),if_pos rfl,hy.stop hx h0 hj]
 ·unfold vecsE;rw[if_neg h,hz.done (Nat.le_refl _),if_pos rfl,hy.done (Nat.le_refl _)]
theorem zax {n outs:Int} {o:List (List Int)} {j:Nat} {e:Int} (he:vecE (nthL o j) n outs=e) (h0:e≠0):outE n outs o j=e:=by unfold outE;rw[he,if_neg h0]
theorem zdE {n outs:Int} {o:List (List Int)} {j:Nat} (he:vecE (nthL o j) n outs=0) (h0:unord o j=true):outE n outs o j=14:=by unfold outE;rw[he,if_pos rfl,h0];rfl
theorem QE {n outs:Int} {o:List (List Int)} {j:Nat} (he:vecE (nthL o j) n outs=0) (h0:unord o j=false):outE n outs o j=0:=by unfold outE;rw[he,if_pos rfl,h0];rfl
theorem Xc {o l:List (List Int)} {j:Nat} (he:decide (nthL l j∈o)=false):calmE o l j=6:=by unfold calmE;rw[he];rfl
theorem zan {o l:List (List Int)} {j:Nat} (he:decide (nthL l j∈o)=true) (h0:unord l j=true):calmE o l j=14:=by unfold calmE;rw[he,h0];rfl
theorem Yv {o l:List (List Int)} {j:Nat} (he:decide (nthL l j∈o)=true) (h0:unord l j=false):calmE o l j=0:=by unfold calmE;rw[he,h0];rfl
theorem Zv (l:List (List Int)):unord l 0=false:=by unfold unord;simp
theorem Yt {l:List (List Int)} {j k:Nat} (hj:j=k - 1) (h:0<k) {c:Int} (hc:ordL (nthL l j) (nthL l k)=c):unord l k=decide (0≤c):=by subst hj;unfold unord;rw[hc];simp[h]
structure CaseR (n ins outs:Int) (l:List CaseD) (k:Nat) (r:Int):Prop where
 bad:∀e,vecE (nthC l k).inn n ins=e→e≠0→r=e
 un:vecE (nthC l k).inn n ins=0→0<k→∀j,j=k - 1→0≤ordL (nthC l j).inn (nthC l k).inn→r=14
 rest:vecE (nthC l k).inn n ins=0→(0<k→∀j,j=k - 1→¬0≤ordL (nthC l j).inn (nthC l k).inn)→r=vecsE n outs (nthC l k)
theorem caseR (n ins outs:Int) (l:List CaseD) (k:Nat):CaseR n ins outs l k (caseE n ins outs l k):=by
 refine ⟨fun e he h0=>?_,fun he hk j hj h=>?_,fun he h=>?_⟩
 ·unfold caseE;rw[he,if_neg h0]
 ·subst hj;unfold caseE;rw[he,if_pos rfl];simp[hk,h]
 ·unfold caseE;rw[he,if_pos rfl];by_cases hk:0<k
  ·have:=h hk _ rfl;simp[this]
  ·simp[hk]
theorem zd0 (w:World) (u1 u2 u3 n ins outs x:Value):
  Below w.heap.size w ((w.alloc (.cells #[n,ins,outs,x] 24)).alloc (.cells #[u1,u2,u3] 157))∧
  Row ((w.alloc (.cells #[n,ins,outs,x] 24)).alloc (.cells #[u1,u2,u3] 157)) w.heap.size 24 [n,ins,outs,x]∧
  Row ((w.alloc (.cells #[n,ins,outs,x] 24)).alloc (.cells #[u1,u2,u3] 157)) (w.heap.size+1) 157 [u1,u2,u3]:=by
 refine ⟨zh (ze w _) _,(zi w [n,ins,outs,x] _).alloc _,?_⟩;have:=zi (w.alloc (.cells #[n,ins,outs,x] 24)) [u1,u2,u3] 157
 rwa [World.size_alloc]at this
theorem zfb {S:Nat→Prop} {w:World} {vc:Value} {l:List CaseD} (n ins outs:Int) (hv:Sl kCase S w vc l) {k:Nat} (hk:k<l.length):
  Calls Tryz.prog 157 #[.agg #[n,ins,outs,vc],k] w (Post w fun _ r=>r=.int .i64 (caseE n ins outs l k)):=by
 obtain ⟨ca,cc,rfl,cad,lol,lml⟩:=hv.form;unfold maxLen at lml;obtain ⟨v1,v2,v3,kc1,kc2,kc3,hin,hou,hca⟩:=hv.case hk;have HPV:Hid (∀j,j<l.length→∃u,w.cell? (adr ca (j * 3))=some u∧Ints S w u (nthC l j).inn):=zhd fun j hj=>by
  obtain ⟨u1,_,_,h1,_,_,h2,_⟩:=hv.case hj;exact ⟨u1,h1,h2⟩
 obtain ⟨ic,hic,hic1⟩:=zK (T:=157) (z:=3) (by kernel_rfl);obtain ⟨i0,hi,hz0,hz1,hz2⟩:=info_parts zW;have QC:=zhd (zM Tryz.underlying22 hic hic1 cad);obtain ⟨a1,c1,rfl,_⟩:=hin.form;obtain ⟨a2,c2,rfl,ad2,lo2,lm2⟩:=hou.form;obtain ⟨a3,c3,rfl,ad3,lo3,lm3⟩:=hca.form;unfold maxLen at lm2 lm3;have Q2:=zhd (zL Tryz.underlying146 hi hz1 ad2);have Q3:=zhd (zL Tryz.underlying146 hi hz1 ad3);have HIN:=zhd hin;have HOU:=zhd hou;have HCA:=zhd hca;have HCR:=zhd (caseR n ins outs l k);have HVR:=zhd (vecsR n outs (nthC l k));obtain ⟨r,hr⟩:=zn (caseE n ins outs l k);rw[←hr]at HCR ⊢;obtain ⟨inn,hinn⟩:∃x,x=(nthC l k).inn:=⟨_,rfl⟩;obtain ⟨ol,hol⟩:∃x,x=(nthC l k).out:=⟨_,rfl⟩;obtain ⟨cl,hcl⟩:∃x,x=(nthC l k).calm:=⟨_,rfl⟩;have HINN:=zhd hinn;rw[←hinn]at HIN kc1;rw[←hol]at HOU HVR Q2 lo2 kc2;rw[←hcl]at HCA HVR Q3 lo3 kc3;have hqk:=QC.out k hk;have hbk:=zZ cad (show 0<l.length by omega) (k * 3);clear hr hinn hol hcl hin hou hca hi hz0 hz1 hz2 hv cad ad2 ad3 hic hic1;obtain ⟨hbx,RT,RC⟩:=zd0 w (.slice a1 inn.length c1) (.slice a2 ol.length c2) (.slice a3 cl.length c3) (.int .i64 n) (.int .i64 ins) (.int .i64 outs) (.slice ca l.length cc);have RT:=zhd RT;have RC:=zhd RC;have KV:=zhd fun W (hW:Below w.heap.size w W)=>((Xb (HIN.out.ext hW) n ins).mono fun _ _ h=>h.take);obtain ⟨e1,he1⟩:∃e,e=vecE inn n ins:=⟨_,rfl⟩;rw[←he1]at KV;have HE1:Hid (vecE (nthC l k).inn n ins=e1):=zhd (by rw[he1,HINN.out]);clear he1;go_enter Tryz.func157,Tryz.ntmps157;go_wp2_with fail;obtain ⟨wA,hwA⟩:=zn ((w.alloc (.cells #[n,ins,outs,.slice ca l.length cc] 24)).alloc (.cells #[.slice a1 inn.length c1,.slice a2 ol.length c2,.slice a3 cl.length c3] 157));rw[←hwA]at hbx RT RC ⊢;refine (KV.out _ hbx).mono ?_;rintro _ w1 ⟨_,rfl,hq1,rfl⟩;clear hwA kc1 kc2 kc3 hqk hbk KV;by_cases h0:e1=0
 case neg=>
  have RR:=zhd (HCR.out.bad e1 HE1.out h0);have d0:(e1 !=0)=true:=by simp[h0]
  clear h0;go_wp2;go_ret;exact .mk (za hbx hq1.ext) (zr RR.out.symm)
 subst h0;have bel1:=za hbx hq1.ext;have REST:Hid (¬(0<k∧∀j,j=k - 1→0≤ordL (nthC l j).inn inn)→r=vecsE n outs (nthC l k)):=zhd fun h=>HCR.out.rest HE1.out fun hk0 j hj hle=>h ⟨hk0,fun j' hj'=>by subst hj hj';rw[HINN.out];exact hle⟩;have t0:=(RT.out.ext hq1.ext).zc 0 rfl;have t1:=(RT.out.ext hq1.ext).zc 1 rfl;have t2:=(RT.out.ext hq1.ext).zc 2 rfl;have t3:=(RT.out.ext hq1.ext).zc 3 rfl;have k0:=(RC.out.ext hq1.ext).zc 0 rfl;have k1:=(RC.out.ext hq1.ext).zc 1 rfl;have k2:=(RC.out.ext hq1.ext).zc 2 rfl;have cut:∀(T:Code),True:=fun _=>trivial;clear cut;by_cases hk0:0<k
 case pos=>
  obtain ⟨j,hj⟩:=zn (k - 1);have hjl:j<l.length:=by omega
  have q1:=QC.out j hjl;obtain ⟨u,cu,iu⟩:=HPV.out j hjl;have cu1:=zm cu bel1;have iu1:=iu.ext bel1;have KO:Hid (∀m,Calls Tryz.prog 174 #[u,.slice a1 inn.length c1] (w1.drewN m) (QuietP (w1.drewN m) (.int .i64 (ordL (nthC l j).inn inn)))):=zhd fun m=>xZ (iu1.drewN m) ((HIN.out.ext bel1).drewN m);obtain ⟨c,hc⟩:=zn (ordL (nthC l j).inn inn);rw[←hc]at KO;have w1':IntKind.i64.wrap ((k:Int) - 1)=j:=by rw[IntKind.wrap_i64];omega
  have w2':decide ((0:Int)<(k:Int))=true:=decide_eq_true (by omega);have w3':decide (0<k)=true:=decide_eq_true hk0;have w4':(0:Int)≤(j:Int):=by omega
  have w5':(j:Int)<(l.length:Int):=by omega
  have HUN:Hid (0≤c→r=14):=zhd fun h=>HCR.out.un HE1.out hk0 j hj (by rw[←HINN.out,←hc];exact h);have HRE:Hid (¬0≤c→r=vecsE n outs (nthC l k)):=zhd fun h=>REST.out fun h'=>h (by rw[hc];exact h'.2 j hj);clear hc hj iu iu1 cu;by_cases hc0:0≤c
  case pos=>
   have RR:=zhd (HUN.out hc0);go_wp2;go_quiet ((go_at_call 174;exact zG (KO.out _)));go_wp2;go_ret;exact .mk (zv bel1 _) (zr RR.out.symm)
  have RV:=zhd (HRE.out hc0);go_wp2;go_quiet ((go_at_call 174;exact zG (KO.out _)));refine zU fun w2 hq2=>?_;clear t0 t1 t2 t3 k0 k1 k2;clear q1 cu1 KO w1' w4' w5';have hQ:=hq1.trans hq2;rw[←RV.out]at HVR;clear RV HRE HUN REST HCR HE1 HPV;have t0:=(RT.out.ext hQ.ext).zc 0 rfl;have t1:=(RT.out.ext hQ.ext).zc 1 rfl;have t2:=(RT.out.ext hQ.ext).zc 2 rfl;have t3:=(RT.out.ext hQ.ext).zc 3 rfl;have k0:=(RC.out.ext hQ.ext).zc 0 rfl;have k1:=(RC.out.ext hQ.ext).zc 1 rfl;have k2:=(RC.out.ext hQ.ext).zc 2 rfl;by_cases hm:ol.length<1∨1024<ol.length
  case pos=>
   have RR:=zhd (HVR.out.many hm);rcases hm with hm | hm
   ·go_wp2;go_ret;exact .mk (za hbx hQ.ext) (zr RR.out.symm)
   ·have hm2:¬ol.length<1:=by omega
    go_wp2;go_ret;exact .mk (za hbx hQ.ext) (zr RR.out.symm)
  have HM:=zhd hm;have hm1:¬ol.length<1:=by omega
  have hm2:¬1024<ol.length:=by omega
  clear hm;go_wp2;clear t0 t1 t2 t3 k0 k1 k2;go_loopw [7] (fun i wr=>∃j:Nat,j≤ol.length∧i=.int .i64 j∧QW wA wr∧Hid (Zeros (outE n outs ol) j)) (fun i _=>ol.length - (intOf i).toNat)
  case atStart=>exact ⟨0,Nat.zero_le _,rfl,hQ,zhd (.zero _)⟩
  case round=>
   clear hq2 hQ;obtain ⟨j,hj,rfl,hQ,HZ⟩:=hrel;have t0:=(RT.out.ext hQ.ext).zc 0 rfl;have t1:=(RT.out.ext hQ.ext).zc 1 rfl;have t2:=(RT.out.ext hQ.ext).zc 2 rfl;have t3:=(RT.out.ext hQ.ext).zc 3 rfl;have k0:=(RC.out.ext hQ.ext).zc 0 rfl;have k1:=(RC.out.ext hQ.ext).zc 1 rfl;have k2:=(RC.out.ext hQ.ext).zc 2 rfl;by_cases hlt:j<ol.length
   ·have q:=Q2.out j hlt;have bel:=za hbx hQ.ext;obtain ⟨u,cu,iu⟩:=HOU.out.at bel hlt;have KV:Hid (∀m,Calls Tryz.prog 173 #[u,n,outs] (wr.drewN m) (QuietP (wr.drewN m) (.int .i64 (vecE (nthL ol j) n outs)))):=zhd fun m=>Xb (iu.drewN m) n outs;obtain ⟨e,he⟩:=zn (vecE (nthL ol j) n outs);rw[←he]at KV;have HE:=zhd he.symm;have w4:(0:Int)≤(j:Int):=by omega
    have w5:(j:Int)<(ol.length:Int):=by omega
    clear he;by_cases h0:e=0
    case neg=>
     have RR:=zhd (HVR.out.out HM.out e j HZ.out (zax HE.out h0) h0 hlt);have d0:(e !=0)=true:=by simp[h0]
     clear h0;go_wp2;go_quiet ((go_at_call 173;exact zG (KV.out _)));go_wp2;go_ret;exact .mk (zv bel _) (zr RR.out.symm)
    subst h0;go_wp2;go_quiet ((go_at_call 173;exact zG (KV.out _)));refine zU fun w3 hq3=>?_;clear t0 t1 t2 t3 k0 k1 k2;clear KV cu;have hQ3:=hQ.trans hq3;have t0:=(RT.out.ext hQ3.ext).zc 0 rfl;have t1:=(RT.out.ext hQ3.ext).zc 1 rfl;have t2:=(RT.out.ext hQ3.ext).zc 2 rfl;have t3:=(RT.out.ext hQ3.ext).zc 3 rfl;have k0:=(RC.out.ext hQ3.ext).zc 0 rfl;have k1:=(RC.out.ext hQ3.ext).zc 1 rfl;have k2:=(RC.out.ext hQ3.ext).zc 2 rfl;by_cases hj0:0<j
    ·obtain ⟨i,hi⟩:=zn (j - 1);have hil:i<ol.length:=by omega
     have q1:=Q2.out i hil;have bel3:=za hbx hQ3.ext;obtain ⟨u1,cu1,iu1⟩:=HOU.out.at bel3 hil;obtain ⟨u2,cu2,iu2⟩:=HOU.out.at bel3 hlt;have KO:Hid (∀m,Calls Tryz.prog 174 #[u1,u2] (w3.drewN m) (QuietP (w3.drewN m) (.int .i64 (ordL (nthL ol i) (nthL ol j))))):=zhd fun m=>xZ (iu1.drewN m) (iu2.drewN m);obtain ⟨c,hc⟩:=zn (ordL (nthL ol i) (nthL ol j));rw[←hc]at KO;have HU:=zhd (Yt hi hj0 hc.symm);have w1':IntKind.i64.wrap ((j:Int) - 1)=i:=by rw[IntKind.wrap_i64];omega
     have w2':decide ((0:Int)<(j:Int))=true:=decide_eq_true (by omega);have w3':decide (0<j)=true:=decide_eq_true hj0;have w4':(0:Int)≤(i:Int):=by omega
     have w5':(i:Int)<(ol.length:Int):=by omega
     clear hc hi iu1 iu2 iu;by_cases hc0:0≤c
     ·have RR:=zhd (HVR.out.out HM.out 14 j HZ.out (zdE HE.out (by rw[HU.out];exact decide_eq_true hc0)) (by decide) hlt);go_wp2;go_quiet ((go_at_call 174;exact zG (KO.out _)));go_wp2;go_ret;exact .mk (zv bel3 _) (zr RR.out.symm)
     ·have HZ2:=zhd (HZ.out.next (QE HE.out (by rw[HU.out];exact decide_eq_false hc0)));go_wp2;go_quiet ((go_at_call 174;exact zG (KO.out _)));go_wp2;clear w1';go_roundw
      case rel=>exact ⟨j+1,by omega,by go_num,hQ3.drewN _,HZ2⟩
      case measure=>simp[intOf];omega
    ·obtain rfl:j=0:=by omega
     have HZ2:=zhd (HZ.out.next (QE HE.out (Zv ol)));have w2':decide ((0:Int)<((0:Nat):Int))=false:=by simp
     go_wp2;go_quiet (fail);go_wp2;go_roundw
     case rel=>exact ⟨1,by omega,rfl,hQ3.drewN _,HZ2⟩
     case measure=>simp[intOf];omega
   ·obtain rfl:j=ol.length:=by omega
    have HZO:=zhd HZ.out;go_wp2;clear t0 t1 t2 t3 k0 k1 k2;clear HZ hlt hj;go_loopw [9] (fun i wr=>∃j:Nat,j≤cl.length∧i=.int .i64 j∧QW wA wr∧Hid (Zeros (calmE ol cl) j)) (fun i _=>cl.length - (intOf i).toNat)
    case atStart=>exact ⟨0,Nat.zero_le _,rfl,hQ,zhd (.zero _)⟩
    case round=>
     clear hQ;obtain ⟨j,hj,rfl,hQ,HZ⟩:=hrel;have t0:=(RT.out.ext hQ.ext).zc 0 rfl;have t1:=(RT.out.ext hQ.ext).zc 1 rfl;have t2:=(RT.out.ext hQ.ext).zc 2 rfl;have t3:=(RT.out.ext hQ.ext).zc 3 rfl;have k0:=(RC.out.ext hQ.ext).zc 0 rfl;have k1:=(RC.out.ext hQ.ext).zc 1 rfl;have k2:=(RC.out.ext hQ.ext).zc 2 rfl;by_cases hlt:j<cl.length
     ·have q:=Q3.out j hlt;have bel:=za hbx hQ.ext;obtain ⟨u,cu,iu⟩:=HCA.out.at bel hlt;have KV:Hid (∀m,Calls Tryz.prog 175 #[.slice a2 ol.length c2,u] (wr.drewN m) (QuietP (wr.drewN m) (.bool (decide (nthL cl j∈ol))))):=zhd fun m=>ziC ((HOU.out.ext bel).agree (zC _ _ m)) (iu.drewN m);obtain ⟨b,he⟩:∃e,e=decide (nthL cl j∈ol):=⟨_,rfl⟩;rw[←he]at KV;have HE:=zhd he.symm;have w4:(0:Int)≤(j:Int):=by omega
      have w5:(j:Int)<(cl.length:Int):=by omega
      clear he;cases b with
      | false=>
       have RR:=zhd (HVR.out.calm HM.out HZO.out 6 j HZ.out (Xc HE.out) (by decide) hlt);go_wp2;go_quiet ((go_at_call 175;exact zG (KV.out _)));go_wp2;go_ret;exact .mk (zv bel _) (zr RR.out.symm)
      | true=>
       go_wp2;go_quiet ((go_at_call 175;exact zG (KV.out _)));refine zU fun w3 hq3=>?_;clear t0 t1 t2 t3 k0 k1 k2;clear KV cu;have hQ3:=hQ.trans hq3;have t0:=(RT.out.ext hQ3.ext).zc 0 rfl;have t1:=(RT.out.ext hQ3.ext).zc 1 rfl;have t2:=(RT.out.ext hQ3.ext).zc 2 rfl;have t3:=(RT.out.ext hQ3.ext).zc 3 rfl;have k0:=(RC.out.ext hQ3.ext).zc 0 rfl;have k1:=(RC.out.ext hQ3.ext).zc 1 rfl;have k2:=(RC.out.ext hQ3.ext).zc 2 rfl;by_cases hj0:0<j
       ·obtain ⟨i,hi⟩:=zn (j - 1);have hil:i<cl.length:=by omega
        have q1:=Q3.out i hil;have bel3:=za hbx hQ3.ext;obtain ⟨u1,cu1,iu1⟩:=HCA.out.at bel3 hil;obtain ⟨u2,cu2,iu2⟩:=HCA.out.at bel3 hlt;have KO:Hid (∀m,Calls Tryz.prog 174 #[u1,u2] (w3.drewN m) (QuietP (w3.drewN m) (.int .i64 (ordL (nthL cl i) (nthL cl j))))):=zhd fun m=>xZ (iu1.drewN m) (iu2.drewN m);obtain ⟨c,hc⟩:=zn (ordL (nthL cl i) (nthL cl j));rw[←hc]at KO;have HU:=zhd (Yt hi hj0 hc.symm);have w1':IntKind.i64.wrap ((j:Int) - 1)=i:=by rw[IntKind.wrap_i64];omega
        have w2':decide ((0:Int)<(j:Int))=true:=decide_eq_true (by omega);have w3':decide (0<j)=true:=decide_eq_true hj0;have w4':(0:Int)≤(i:Int):=by omega
        have w5':(i:Int)<(cl.length:Int):=by omega
        clear hc hi iu1 iu2 iu;by_cases hc0:0≤c
        ·have RR:=zhd (HVR.out.calm HM.out HZO.out 14 j HZ.out (zan HE.out (by rw[HU.out];exact decide_eq_true hc0)) (by decide) hlt);go_wp2;go_quiet ((go_at_call 174;exact zG (KO.out _)));go_wp2;go_ret;exact .mk (zv bel3 _) (zr RR.out.symm)
        ·have HZ2:=zhd (HZ.out.next (Yv HE.out (by rw[HU.out];exact decide_eq_false hc0)));go_wp2;go_quiet ((go_at_call 174;exact zG (KO.out _)));go_wp2;clear w1';go_roundw
         case rel=>exact ⟨j+1,by omega,by go_num,hQ3.drewN _,HZ2⟩
         case measure=>simp[intOf];omega
       ·obtain rfl:j=0:=by omega
        have HZ2:=zhd (HZ.out.next (Yv HE.out (Zv cl)));have w2':decide ((0:Int)<((0:Nat):Int))=false:=by simp
        go_wp2;go_quiet (fail);go_wp2;go_roundw
        case rel=>exact ⟨1,by omega,rfl,hQ3.drewN _,HZ2⟩
        case measure=>simp[intOf];omega
     ·obtain rfl:j=cl.length:=by omega
      have RR:=zhd (HVR.out.fine HM.out HZO.out HZ.out);go_wp2;go_ret;exact .mk (za hbx hQ.ext) (zr RR.out.symm)
 case neg=>
  obtain rfl:k=0:=by omega
  have RV:=zhd (REST.out fun h=>by omega);have w2':decide ((0:Int)<((0:Nat):Int))=false:=by simp
  go_wp2;go_quiet (fail);refine zU fun w2 hq2=>?_;clear t0 t1 t2 t3 k0 k1 k2;have hQ:=hq1.trans hq2;rw[←RV.out]at HVR;clear RV REST HCR HE1 HPV;have t0:=(RT.out.ext hQ.ext).zc 0 rfl;have t1:=(RT.out.ext hQ.ext).zc 1 rfl;have t2:=(RT.out.ext hQ.ext).zc 2 rfl;have t3:=(RT.out.ext hQ.ext).zc 3 rfl;have k0:=(RC.out.ext hQ.ext).zc 0 rfl;have k1:=(RC.out.ext hQ.ext).zc 1 rfl;have k2:=(RC.out.ext hQ.ext).zc 2 rfl;by_cases hm:ol.length<1∨1024<ol.length
  case pos=>
   have RR:=zhd (HVR.out.many hm);rcases hm with hm | hm
   ·go_wp2;go_ret;exact .mk (za hbx hQ.ext) (zr RR.out.symm)
   ·have hm2:¬ol.length<1:=by omega
    go_wp2;go_ret;exact .mk (za hbx hQ.ext) (zr RR.out.symm)
  have HM:=zhd hm;have hm1:¬ol.length<1:=by omega
  have hm2:¬1024<ol.length:=by omega
  clear hm;go_wp2;clear t0 t1 t2 t3 k0 k1 k2;go_loopw [7] (fun i wr=>∃j:Nat,j≤ol.length∧i=.int .i64 j∧QW wA wr∧Hid (Zeros (outE n outs ol) j)) (fun i _=>ol.length - (intOf i).toNat)
  case atStart=>exact ⟨0,Nat.zero_le _,rfl,hQ,zhd (.zero _)⟩
  case round=>
   clear hq2 hQ;obtain ⟨j,hj,rfl,hQ,HZ⟩:=hrel;have t0:=(RT.out.ext hQ.ext).zc 0 rfl;have t1:=(RT.out.ext hQ.ext).zc 1 rfl;have t2:=(RT.out.ext hQ.ext).zc 2 rfl;have t3:=(RT.out.ext hQ.ext).zc 3 rfl;have k0:=(RC.out.ext hQ.ext).zc 0 rfl;have k1:=(RC.out.ext hQ.ext).zc 1 rfl;have k2:=(RC.out.ext hQ.ext).zc 2 rfl;by_cases hlt:j<ol.length
   ·have q:=Q2.out j hlt;have bel:=za hbx hQ.ext;obtain ⟨u,cu,iu⟩:=HOU.out.at bel hlt;have KV:Hid (∀m,Calls Tryz.prog 173 #[u,n,outs] (wr.drewN m) (QuietP (wr.drewN m) (.int .i64 (vecE (nthL ol j) n outs)))):=zhd fun m=>Xb (iu.drewN m) n outs;obtain ⟨e,he⟩:=zn (vecE (nthL ol j) n outs);rw[←he]at KV;have HE:=zhd he.symm;have w4:(0:Int)≤(j:Int):=by omega
    have w5:(j:Int)<(ol.length:Int):=by omega
    clear he;by_cases h0:e=0
    case neg=>
     have RR:=zhd (HVR.out.out HM.out e j HZ.out (zax HE.out h0) h0 hlt);have d0:(e !=0)=true:=by simp[h0]
     clear h0;go_wp2;go_quiet ((go_at_call 173;exact zG (KV.out _)));go_wp2;go_ret;exact .mk (zv bel _) (zr RR.out.symm)
    subst h0;go_wp2;go_quiet ((go_at_call 173;exact zG (KV.out _)));refine zU fun w3 hq3=>?_;clear t0 t1 t2 t3 k0 k1 k2;clear KV cu;have hQ3:=hQ.trans hq3;have t0:=(RT.out.ext hQ3.ext).zc 0 rfl;have t1:=(RT.out.ext hQ3.ext).zc 1 rfl;have t2:=(RT.out.ext hQ3.ext).zc 2 rfl;have t3:=(RT.out.ext hQ3.ext).zc 3 rfl;have k0:=(RC.out.ext hQ3.ext).zc 0 rfl;have k1:=(RC.out.ext hQ3.ext).zc 1 rfl;have k2:=(RC.out.ext hQ3.ext).zc 2 rfl;by_cases hj0:0<j
    ·obtain ⟨i,hi⟩:=zn (j - 1);have hil:i<ol.length:=by omega
     have q1:=Q2.out i hil;have bel3:=za hbx hQ3.ext;obtain ⟨u1,cu1,iu1⟩:=HOU.out.at bel3 hil;obtain ⟨u2,cu2,iu2⟩:=HOU.out.at bel3 hlt;have KO:Hid (∀m,Calls Tryz.prog 174 #[u1,u2] (w3.drewN m) (QuietP (w3.drewN m) (.int .i64 (ordL (nthL ol i) (nthL ol j))))):=zhd fun m=>xZ (iu1.drewN m) (iu2.drewN m);obtain ⟨c,hc⟩:=zn (ordL (nthL ol i) (nthL ol j));rw[←hc]at KO;have HU:=zhd (Yt hi hj0 hc.symm);have w1':IntKind.i64.wrap ((j:Int) - 1)=i:=by rw[IntKind.wrap_i64];omega
     have w2':decide ((0:Int)<(j:Int))=true:=decide_eq_true (by omega);have w3':decide (0<j)=true:=decide_eq_true hj0;have w4':(0:Int)≤(i:Int):=by omega
     have w5':(i:Int)<(ol.length:Int):=by omega
     clear hc hi iu1 iu2 iu;by_cases hc0:0≤c
     ·have RR:=zhd (HVR.out.out HM.out 14 j HZ.out (zdE HE.out (by rw[HU.out];exact decide_eq_true hc0)) (by decide) hlt);go_wp2;go_quiet ((go_at_call 174;exact zG (KO.out _)));go_wp2;go_ret;exact .mk (zv bel3 _) (zr RR.out.symm)
     ·have HZ2:=zhd (HZ.out.next (QE HE.out (by rw[HU.out];exact decide_eq_false hc0)));go_wp2;go_quiet ((go_at_call 174;exact zG (KO.out _)));go_wp2;clear w1';go_roundw
      case rel=>exact ⟨j+1,by omega,by go_num,hQ3.drewN _,HZ2⟩
      case measure=>simp[intOf];omega
    ·obtain rfl:j=0:=by omega
     have HZ2:=zhd (HZ.out.next (QE HE.out (Zv ol)));have w2':decide ((0:Int)<((0:Nat):Int))=false:=by simp
     go_wp2;go_quiet (fail);go_wp2;go_roundw
     case rel=>exact ⟨1,by omega,rfl,hQ3.drewN _,HZ2⟩
     case measure=>simp[intOf];omega
   ·obtain rfl:j=ol.length:=by omega
    have HZO:=zhd HZ.out;go_wp2;clear t0 t1 t2 t3 k0 k1 k2;clear HZ hlt hj;go_loopw [9] (fun i wr=>∃j:Nat,j≤cl.length∧i=.int .i64 j∧QW wA wr∧Hid (Zeros (calmE ol cl) j)) (fun i _=>cl.length - (intOf i).toNat)
    case atStart=>exact ⟨0,Nat.zero_le _,rfl,hQ,zhd (.zero _)⟩
    case round=>
     clear hQ;obtain ⟨j,hj,rfl,hQ,HZ⟩:=hrel;have t0:=(RT.out.ext hQ.ext).zc 0 rfl;have t1:=(RT.out.ext hQ.ext).zc 1 rfl;have t2:=(RT.out.ext hQ.ext).zc 2 rfl;have t3:=(RT.out.ext hQ.ext).zc 3 rfl;have k0:=(RC.out.ext hQ.ext).zc 0 rfl;have k1:=(RC.out.ext hQ.ext).zc 1 rfl;have k2:=(RC.out.ext hQ.ext).zc 2 rfl;by_cases hlt:j<cl.length
     ·have q:=Q3.out j hlt;have bel:=za hbx hQ.ext;obtain ⟨u,cu,iu⟩:=HCA.out.at bel hlt;have KV:Hid (∀m,Calls Tryz.prog 175 #[.slice a2 ol.length c2,u] (wr.drewN m) (QuietP (wr.drewN m) (.bool (decide (nthL cl j∈ol))))):=zhd fun m=>ziC ((HOU.out.ext bel).agree (zC _ _ m)) (iu.drewN m);obtain ⟨b,he⟩:∃e,e=decide (nthL cl j∈ol):=⟨_,rfl⟩;rw[←he]at KV;have HE:=zhd he.symm;have w4:(0:Int)≤(j:Int):=by omega
      have w5:(j:Int)<(cl.length:Int):=by omega
      clear he;cases b with
      | false=>
       have RR:=zhd (HVR.out.calm HM.out HZO.out 6 j HZ.out (Xc HE.out) (by decide) hlt);go_wp2;go_quiet ((go_at_call 175;exact zG (KV.out _)));go_wp2;go_ret;exact .mk (zv bel _) (zr RR.out.symm)
      | true=>
       go_wp2;go_quiet ((go_at_call 175;exact zG (KV.out _)));refine zU fun w3 hq3=>?_;clear t0 t1 t2 t3 k0 k1 k2;clear KV cu;have hQ3:=hQ.trans hq3;have t0:=(RT.out.ext hQ3.ext).zc 0 rfl;have t1:=(RT.out.ext hQ3.ext).zc 1 rfl;have t2:=(RT.out.ext hQ3.ext).zc 2 rfl;have t3:=(RT.out.ext hQ3.ext).zc 3 rfl;have k0:=(RC.out.ext hQ3.ext).zc 0 rfl;have k1:=(RC.out.ext hQ3.ext).zc 1 rfl;have k2:=(RC.out.ext hQ3.ext).zc 2 rfl;by_cases hj0:0<j
       ·obtain ⟨i,hi⟩:=zn (j - 1);have hil:i<cl.length:=by omega
        have q1:=Q3.out i hil;have bel3:=za hbx hQ3.ext;obtain ⟨u1,cu1,iu1⟩:=HCA.out.at bel3 hil;obtain ⟨u2,cu2,iu2⟩:=HCA.out.at bel3 hlt;have KO:Hid (∀m,Calls Tryz.prog 174 #[u1,u2] (w3.drewN m) (QuietP (w3.drewN m) (.int .i64 (ordL (nthL cl i) (nthL cl j))))):=zhd fun m=>xZ (iu1.drewN m) (iu2.drewN m);obtain ⟨c,hc⟩:=zn (ordL (nthL cl i) (nthL cl j));rw[←hc]at KO;have HU:=zhd (Yt hi hj0 hc.symm);have w1':IntKind.i64.wrap ((j:Int) - 1)=i:=by rw[IntKind.wrap_i64];omega
        have w2':decide ((0:Int)<(j:Int))=true:=decide_eq_true (by omega);have w3':decide (0<j)=true:=decide_eq_true hj0;have w4':(0:Int)≤(i:Int):=by omega
        have w5':(i:Int)<(cl.length:Int):=by omega
        clear hc hi iu1 iu2 iu;by_cases hc0:0≤c
        ·have RR:=zhd (HVR.out.calm HM.out HZO.out 14 j HZ.out (zan HE.out (by rw[HU.out];exact decide_eq_true hc0)) (by decide) hlt);go_wp2;go_quiet ((go_at_call 174;exact zG (KO.out _)));go_wp2;go_ret;exact .mk (zv bel3 _) (zr RR.out.symm)
        ·have HZ2:=zhd (HZ.out.next (Yv HE.out (by rw[HU.out];exact decide_eq_false hc0)));go_wp2;go_quiet ((go_at_call 174;exact zG (KO.out _)));go_wp2;clear w1';go_roundw
         case rel=>exact ⟨j+1,by omega,by go_num,hQ3.drewN _,HZ2⟩
         case measure=>simp[intOf];omega
       ·obtain rfl:j=0:=by omega
        have HZ2:=zhd (HZ.out.next (Yv HE.out (Zv cl)));have w2':decide ((0:Int)<((0:Nat):Int))=false:=by simp
        go_wp2;go_quiet (fail);go_wp2;go_roundw
        case rel=>exact ⟨1,by omega,rfl,hQ3.drewN _,HZ2⟩
        case measure=>simp[intOf];omega
     ·obtain rfl:j=cl.length:=by omega
      have RR:=zhd (HVR.out.fine HM.out HZO.out HZ.out);go_wp2;go_ret;exact .mk (za hbx hQ.ext) (zr RR.out.symm)
structure TaskR (n ins outs:Int) (l:List CaseD) (r:Int):Prop where
 range:(n<1∨5<n∨ins<1∨8<ins∨outs<1∨8<outs)→r=2
 many:¬(n<1∨5<n∨ins<1∨8<ins∨outs<1∨8<outs)→(l.length<1∨1024<l.length)→r=5
 stop:¬(n<1∨5<n∨ins<1∨8<ins∨outs<1∨8<outs)→¬(l.length<1∨1024<l.length)→∀(x:Int) (j:Nat),Zeros (caseE n ins outs l) j→caseE n ins outs l j=x→x≠0→j<l.length→r=x
 fine:¬(n<1∨5<n∨ins<1∨8<ins∨outs<1∨8<outs)→¬(l.length<1∨1024<l.length)→Zeros (caseE n ins outs l) l.length→r=0
theorem taskR (n ins outs:Int) (l:List CaseD):TaskR n ins outs l (checkT n ins outs l):=by
 refine ⟨fun h=>?_,fun h h2=>?_,fun h h2 x j hz hx h0 hj=>?_,fun h h2 hz=>?_⟩
 ·unfold checkT;rw[if_pos h]
 ·unfold checkT;rw[if_neg h,if_pos h2]
 ·unfold checkT;rw[if_neg h,if_neg h2,hz.stop hx h0 hj]
 ·unfold checkT;rw[if_neg h,if_neg h2,hz.done (Nat.le_refl _)]
theorem zaN {S:Nat→Prop} {w:World} {vc:Value} {l:List CaseD} (n ins outs:Int) (hv:Sl kCase S w vc l):
  Calls Tryz.prog 140 #[.agg #[n,ins,outs,vc]] w (Post w fun _ r=>r=.int .i64 (checkT n ins outs l)):=by
 have HTR:=zhd (taskR n ins outs l);obtain ⟨r,hr⟩:=zn (checkT n ins outs l);rw[←hr]at HTR ⊢;have HV:=zhd hv;obtain ⟨ca,cc,rfl,cad,lo,lm⟩:=hv.form;unfold maxLen at lm;clear hr hv;have ex:=ze w (.cells #[n,ins,outs,.slice ca l.length cc] 24);have RT:Row (w.alloc (.cells #[n,ins,outs,.slice ca l.length cc] 24)) w.heap.size 24 [n,ins,outs,.slice ca l.length cc]:=zi w [_,_,_,_] _;by_cases g0:n<1
 ·have RR:=zhd (HTR.out.range (by omega));go_enter Tryz.func140,Tryz.ntmps140;go_wp2;go_ret;exact .mk ex (zr RR.out.symm)
 by_cases g1:5<n
 ·have RR:=zhd (HTR.out.range (by omega));go_enter Tryz.func140,Tryz.ntmps140;go_wp2;go_ret;exact .mk ex (zr RR.out.symm)
 by_cases g2:ins<1
 ·have RR:=zhd (HTR.out.range (by omega));go_enter Tryz.func140,Tryz.ntmps140;go_wp2;go_ret;exact .mk ex (zr RR.out.symm)
 by_cases g3:8<ins
 ·have RR:=zhd (HTR.out.range (by omega));go_enter Tryz.func140,Tryz.ntmps140;go_wp2;go_ret;exact .mk ex (zr RR.out.symm)
 by_cases g4:outs<1
 ·have RR:=zhd (HTR.out.range (by omega));go_enter Tryz.func140,Tryz.ntmps140;go_wp2;go_ret;exact .mk ex (zr RR.out.symm)
 by_cases g5:8<outs
 ·have RR:=zhd (HTR.out.range (by omega));go_enter Tryz.func140,Tryz.ntmps140;go_wp2;go_ret;exact .mk ex (zr RR.out.symm)
 have HN:=zhd (show¬(n<1∨5<n∨ins<1∨8<ins∨outs<1∨8<outs) by omega);by_cases m0:l.length<1
 ·have RR:=zhd (HTR.out.many HN.out (.inl m0));go_enter Tryz.func140,Tryz.ntmps140;go_wp2;go_ret;exact .mk ex (zr RR.out.symm)
 by_cases m1:1024<l.length
 ·have RR:=zhd (HTR.out.many HN.out (.inr m1));go_enter Tryz.func140,Tryz.ntmps140;go_wp2;go_ret;exact .mk ex (zr RR.out.symm)
 have HM:=zhd (show¬(l.length<1∨1024<l.length) by omega);go_enter Tryz.func140,Tryz.ntmps140;go_wp2;clear g0 g1 g2 g3 g4 g5 m0;go_loopw [3] (fun i wr=>∃k:Nat,k≤l.length∧i=.int .i64 k∧Below w.heap.size w wr∧Row wr w.heap.size 24 [n,ins,outs,.slice ca l.length cc]∧Hid (Zeros (caseE n ins outs l) k)) (fun i _=>l.length - (intOf i).toNat)
 case atStart=>exact ⟨0,Nat.zero_le _,rfl,ex,RT,zhd (.zero _)⟩
 case round=>
  clear ex RT;obtain ⟨k,hk,rfl,hb,R,HZ⟩:=hrel;have t0:=R.zc 0 rfl;have t1:=R.zc 1 rfl;have t2:=R.zc 2 rfl;have t3:=R.zc 3 rfl;by_cases hlt:k<l.length
  ·have KO:=zhd (zfb n ins outs (HV.out.ext hb) hlt);obtain ⟨e,he⟩:=zn (caseE n ins outs l k);rw[←he]at KO;have HE:=zhd he.symm;clear he;go_wp2_with fail;refine KO.out.mono ?_;rintro _ w1 ⟨_,rfl,hb1,rfl⟩;have hb2:=za hb hb1;have R2:=R.ext hb1;clear t0 t1 t2 t3 KO;by_cases h0:e=0
   ·subst h0;have HZ2:=zhd (HZ.out.next HE.out);go_wp2;go_roundw
    case rel=>exact ⟨k+1,by omega,by go_num,hb2,R2,HZ2⟩
    case measure=>simp[intOf];omega
   ·have RR:=zhd (HTR.out.stop HN.out HM.out e k HZ.out HE.out h0 hlt);have d0:(e !=0)=true:=by simp[h0]
    clear h0;go_wp2;go_ret;exact .mk hb2 (zr RR.out.symm)
  ·obtain rfl:k=l.length:=by omega
   have RR:=zhd (HTR.out.fine HN.out HM.out HZ.out);go_wp2;go_ret;exact .mk hb (zr RR.out.symm)
theorem ZF {S:Nat→Prop} {w:World} {v1 v2 v3 x:Value} {c:CaseD} (n ins outs:Int) (hin:Ints S w v1 c.inn) (hou:Lists S w v2 c.out) (hca:Lists S w v3 c.calm):
  Calls Tryz.prog 169 #[.agg #[n,ins,outs,x],.agg #[v1,v2,v3]] w (Post w fun _ r=>r=.int .i64 (vecsE n outs c)):=by
 have HVR:=zhd (vecsR n outs c);obtain ⟨r,hr⟩:=zn (vecsE n outs c);rw[←hr]at HVR ⊢;obtain ⟨inn,hinn⟩:∃x,x=c.inn:=⟨_,rfl⟩;obtain ⟨ol,hol⟩:∃x,x=c.out:=⟨_,rfl⟩;obtain ⟨cl,hcl⟩:∃x,x=c.calm:=⟨_,rfl⟩;rw[←hinn]at hin;rw[←hol]at hou HVR;rw[←hcl]at hca HVR;obtain ⟨i0,hi,hz0,hz1,hz2⟩:=info_parts zW;obtain ⟨a1,c1,rfl,_⟩:=hin.form;obtain ⟨a2,c2,rfl,ad2,lo2,lm2⟩:=hou.form;obtain ⟨a3,c3,rfl,ad3,lo3,lm3⟩:=hca.form;unfold maxLen at lm2 lm3;have Q2:=zhd (zL Tryz.underlying146 hi hz1 ad2);have Q3:=zhd (zL Tryz.underlying146 hi hz1 ad3);have HOU:=zhd hou;have HCA:=zhd hca;clear hr hinn hol hcl hin hou hca hi hz0 hz1 hz2 ad2 ad3;obtain ⟨hbx,RT,RC⟩:=zd0 w (.slice a1 inn.length c1) (.slice a2 ol.length c2) (.slice a3 cl.length c3) (.int .i64 n) (.int .i64 ins) (.int .i64 outs) x;have BX:Hid (Below w.heap.size w ((w.alloc (.cells #[n,ins,outs,x] 24)).alloc (.cells #[.slice a1 inn.length c1,.slice a2 ol.length c2,.slice a3 cl.length c3] 157))):=zhd hbx;by_cases hm:ol.length<1
 ·have RR:=zhd (HVR.out.many (.inl hm));go_enter Tryz.func169,Tryz.ntmps169;go_wp2;go_ret;exact .mk hbx (zr RR.out.symm)
 by_cases hm2:1024<ol.length
 ·have RR:=zhd (HVR.out.many (.inr hm2));go_enter Tryz.func169,Tryz.ntmps169;go_wp2;go_ret;exact .mk hbx (zr RR.out.symm)
 have HM:=zhd (show¬(ol.length<1∨1024<ol.length) by omega);go_enter Tryz.func169,Tryz.ntmps169;go_wp2;go_loopw [5,6,23] (fun _ _ i wr=>∃j:Nat,j≤ol.length∧i=.int .i64 j∧Below w.heap.size w wr∧Row wr w.heap.size 24 [n,ins,outs,x]∧Row wr (w.heap.size+1) 157 [.slice a1 inn.length c1,.slice a2 ol.length c2,.slice a3 cl.length c3]∧Hid (Zeros (outE n outs ol) j)) (fun _ _ i _=>ol.length - (intOf i).toNat)
 case atStart=>exact ⟨0,Nat.zero_le _,rfl,hbx,RT,RC,zhd (.zero _)⟩
 case round=>
  clear hbx RT RC BX;obtain ⟨j,hj,rfl,hb,RT,RC,HZ⟩:=hrel;have t0:=RT.zc 0 rfl;have t2:=RT.zc 2 rfl;have k1:=RC.zc 1 rfl;have k2:=RC.zc 2 rfl;by_cases hlt:j<ol.length
  ·have q:=Q2.out j hlt;obtain ⟨u,cu,iu⟩:=HOU.out.at hb hlt;have KV:=zhd (Ym iu n outs);obtain ⟨e,he⟩:=zn (vecE (nthL ol j) n outs);rw[←he]at KV;have HE:=zhd he.symm;clear he iu;go_wp2_with fail;refine KV.out.mono ?_;rintro _ w1 ⟨_,rfl,hb1,rfl⟩;have hb2:=za hb hb1;have RT1:=RT.ext hb1;have RC1:=RC.ext hb1;clear t0 t2 k1 k2 KV cu q;by_cases h0:e=0
   ·subst h0;have KU:=zhd ((QZ (HOU.out.ext hb2) hlt).mono fun _ _ h=>h.take);obtain ⟨b,hbb⟩:=zn (unord ol j);rw[←hbb]at KU;have HB:=zhd hbb.symm;clear hbb;have k1:=RC1.zc 1 rfl;go_wp2_with fail;refine KU.out.mono ?_;rintro _ w2 ⟨_,rfl,hq2,rfl⟩;have hb3:=za hb2 hq2.ext;clear k1 KU;cases b with
    | true=>
     have RR:=zhd (HVR.out.out HM.out 14 j HZ.out (zdE HE.out HB.out) (by decide) hlt);go_wp2;go_ret;exact .mk hb3 (zr RR.out.symm)
    | false=>
     have HZ2:=zhd (HZ.out.next (QE HE.out HB.out));have RT2:=RT1.ext hq2.ext;have RC2:=RC1.ext hq2.ext;go_wp2;go_roundw
     case rel=>exact ⟨j+1,by omega,by go_num,hb3,RT2,RC2,HZ2⟩
     case measure=>simp[intOf];omega
   ·have RR:=zhd (HVR.out.out HM.out e j HZ.out (zax HE.out h0) h0 hlt);have d0:(e !=0)=true:=by simp[h0]
    clear h0;go_wp2;go_ret;exact .mk hb2 (zr RR.out.symm)
  ·obtain rfl:j=ol.length:=by omega
   have HZO:=zhd HZ.out;clear hlt HZ;go_wp2;clear t0 t2 k1 k2;go_loopw [8,9,45] (fun _ _ i wr=>∃j:Nat,j≤cl.length∧i=.int .i64 j∧Below w.heap.size w wr∧Row wr (w.heap.size+1) 157 [.slice a1 inn.length c1,.slice a2 ol.length c2,.slice a3 cl.length c3]∧Hid (Zeros (calmE ol cl) j)) (fun _ _ i _=>cl.length - (intOf i).toNat)
   case atStart=>exact ⟨0,Nat.zero_le _,rfl,hb,RC,zhd (.zero _)⟩
   case round=>
    clear hb RC RT;obtain ⟨j,hj,rfl,hb,RC,HZ⟩:=hrel;have k1:=RC.zc 1 rfl;have k2:=RC.zc 2 rfl;by_cases hlt:j<cl.length
    ·have q:=Q3.out j hlt;obtain ⟨u,cu,iu⟩:=HCA.out.at hb hlt;have KV:=zhd (ze5 (HOU.out.ext hb) iu);obtain ⟨b,he⟩:∃e,e=decide (nthL cl j∈ol):=⟨_,rfl⟩;rw[←he]at KV;have HE:=zhd he.symm;clear he iu;go_wp2_with fail;refine KV.out.mono ?_;rintro _ w1 ⟨_,rfl,hb1,rfl⟩;have hb2:=za hb hb1;have RC1:=RC.ext hb1;clear k1 k2 KV cu q;cases b with
     | false=>
      have RR:=zhd (HVR.out.calm HM.out HZO.out 6 j HZ.out (Xc HE.out) (by decide) hlt);go_wp2;go_ret;exact .mk hb2 (zr RR.out.symm)
     | true=>
      have KU:=zhd ((QZ (HCA.out.ext hb2) hlt).mono fun _ _ h=>h.take);obtain ⟨b,hbb⟩:=zn (unord cl j);rw[←hbb]at KU;have HB:=zhd hbb.symm;clear hbb;have k2:=RC1.zc 2 rfl;go_wp2_with fail;refine KU.out.mono ?_;rintro _ w2 ⟨_,rfl,hq2,rfl⟩;have hb3:=za hb2 hq2.ext;clear k2 KU;cases b with
      | true=>
       have RR:=zhd (HVR.out.calm HM.out HZO.out 14 j HZ.out (zan HE.out HB.out) (by decide) hlt);go_wp2;go_ret;exact .mk hb3 (zr RR.out.symm)
      | false=>
       have HZ2:=zhd (HZ.out.next (Yv HE.out HB.out));have RC2:=RC1.ext hq2.ext;go_wp2;go_roundw
       case rel=>exact ⟨j+1,by omega,by go_num,hb3,RC2,HZ2⟩
       case measure=>simp[intOf];omega
    ·obtain rfl:j=cl.length:=by omega
     have RR:=zhd (HVR.out.fine HM.out HZO.out HZ.out);go_wp2;go_ret;exact .mk hb (zr RR.out.symm)
theorem zaq {S:Nat→Prop} {w:World} {vc:Value} {l:List CaseD} (n ins outs:Int) (hv:Sl kCase S w vc l):
  Calls Tryz.prog 154 #[.agg #[n,ins,outs,vc]] w (Post w fun _ r=>r=.int .i64 (checkT n ins outs l)):=by
 have HTR:=zhd (taskR n ins outs l);obtain ⟨r,hr⟩:=zn (checkT n ins outs l);rw[←hr]at HTR ⊢;have HV:=zhd hv;obtain ⟨ca,cc,rfl,cad,lo,lm⟩:=hv.form;unfold maxLen at lm;clear hr hv;have ex:=ze w (.cells #[n,ins,outs,.slice ca l.length cc] 24);have RT:Row (w.alloc (.cells #[n,ins,outs,.slice ca l.length cc] 24)) w.heap.size 24 [n,ins,outs,.slice ca l.length cc]:=zi w [_,_,_,_] _;by_cases g0:n<1
 ·have RR:=zhd (HTR.out.range (by omega));go_enter Tryz.func154,Tryz.ntmps154;go_wp2;go_ret;exact .mk ex (zr RR.out.symm)
 by_cases g1:5<n
 ·have RR:=zhd (HTR.out.range (by omega));go_enter Tryz.func154,Tryz.ntmps154;go_wp2;go_ret;exact .mk ex (zr RR.out.symm)
 by_cases g2:ins<1
 ·have RR:=zhd (HTR.out.range (by omega));go_enter Tryz.func154,Tryz.ntmps154;go_wp2;go_ret;exact .mk ex (zr RR.out.symm)
 by_cases g3:8<ins
 ·have RR:=zhd (HTR.out.range (by omega));go_enter Tryz.func154,Tryz.ntmps154;go_wp2;go_ret;exact .mk ex (zr RR.out.symm)
 by_cases g4:outs<1
 ·have RR:=zhd (HTR.out.range (by omega));go_enter Tryz.func154,Tryz.ntmps154;go_wp2;go_ret;exact .mk ex (zr RR.out.symm)
 by_cases g5:8<outs
 ·have RR:=zhd (HTR.out.range (by omega));go_enter Tryz.func154,Tryz.ntmps154;go_wp2;go_ret;exact .mk ex (zr RR.out.symm)
 have HN:=zhd (show¬(n<1∨5<n∨ins<1∨8<ins∨outs<1∨8<outs) by omega);by_cases m0:l.length<1
 ·have RR:=zhd (HTR.out.many HN.out (.inl m0));go_enter Tryz.func154,Tryz.ntmps154;go_wp2;go_ret;exact .mk ex (zr RR.out.symm)
 by_cases m1:1024<l.length
 ·have RR:=zhd (HTR.out.many HN.out (.inr m1));go_enter Tryz.func154,Tryz.ntmps154;go_wp2;go_ret;exact .mk ex (zr RR.out.symm)
 have HM:=zhd (show¬(l.length<1∨1024<l.length) by omega);go_enter Tryz.func154,Tryz.ntmps154;go_wp2;clear g0 g1 g2 g3 g4 g5 m0;have HRC:=zhd fun k=>caseR n ins outs l k;obtain ⟨ic,hic,hic1⟩:=zK (T:=157) (z:=3) (by kernel_rfl);have QC:=zhd (zM Tryz.underlying22 hic hic1 cad);have HBK:Hid (0<l.length→∀j,(adr ca j).block<w.heap.size):=zhd fun h j=>zZ cad h j;clear hic hic1 cad;go_loopw [3,46] (fun _ i wr=>∃k:Nat,k≤l.length∧i=.int .i64 k∧Below w.heap.size w wr∧Row wr w.heap.size 24 [n,ins,outs,.slice ca l.length cc]∧Hid (Zeros (caseE n ins outs l) k)) (fun _ i _=>l.length - (intOf i).toNat)
 case atStart=>exact ⟨0,Nat.zero_le _,rfl,ex,RT,zhd (.zero _)⟩
 case round=>
  clear ex RT;obtain ⟨k,hk,rfl,hb,R,HZ⟩:=hrel;by_cases hlt:k<l.length
  ·have t0:=R.zc 0 rfl;have t1:=R.zc 1 rfl;have t2:=R.zc 2 rfl;have t3:=R.zc 3 rfl;have tl:=R.lt;have qk:=QC.out k hlt;have hbk:=Nat.lt_of_lt_of_le (HBK.out (by omega) (k * 3)) hb.size;obtain ⟨v1,v2,v3,kc1,kc2,kc3,hin,hou,hca⟩:=(HV.out.ext hb).case hlt;obtain ⟨a1,c1,rfl,_⟩:=hin.form;obtain ⟨a2,c2,rfl,_⟩:=hou.form;obtain ⟨a3,c3,rfl,_⟩:=hca.form;have HIN:=zhd hin;have HOU:=zhd hou;have HCA:=zhd hca;have HR:=zhd (HRC.out k);obtain ⟨inn,hinn⟩:∃x,x=(nthC l k).inn:=⟨_,rfl⟩;obtain ⟨on,hon⟩:∃x,x=(nthC l k).out.length:=⟨_,rfl⟩;obtain ⟨cn,hcn⟩:∃x,x=(nthC l k).calm.length:=⟨_,rfl⟩;have HINN:=zhd hinn;rw[←hinn]at HIN kc1;rw[←hon]at HOU kc2;rw[←hcn]at HCA kc3;have exb:=ze wr (.cells #[.slice a1 inn.length c1,.slice a2 on c2,.slice a3 cn c3] 157);have RC:Row (wr.alloc (.cells #[.slice a1 inn.length c1,.slice a2 on c2,.slice a3 cn c3] 157)) wr.heap.size 157 [.slice a1 inn.length c1,.slice a2 on c2,.slice a3 cn c3]:=zi wr [_,_,_] _;have RT:=R.alloc (.cells #[.slice a1 inn.length c1,.slice a2 on c2,.slice a3 cn c3] 157);have KV:=zhd fun W (hW:Below wr.heap.size wr W)=>Ym (HIN.out.ext hW) n ins;obtain ⟨e,he⟩:=zn (vecE inn n ins);rw[←he]at KV;have HE:Hid (vecE (nthC l k).inn n ins=e):=zhd (by rw[he,HINN.out]);obtain ⟨g,hg⟩:=zn wr.heap.size;have HG:=zhd hg;clear he hinn hon hcn hin hou hca;go_wp2_with fail;refine (KV.out _ exb).mono ?_;rintro _ w1 ⟨_,rfl,hb1,rfl⟩;have hx1:=za exb hb1;have hbel1:=za hb hx1;have RT1:=RT.ext hb1;have RC1:=RC.ext hb1;rw[←hg]at RC1 ⊢;clear t0 t1 t2 t3 tl qk hbk kc1 kc2 kc3 KV RT RC exb hb1 R hg;by_cases h0:e=0
   case neg=>
    have RR:=zhd (HTR.out.stop HN.out HM.out e k HZ.out (HR.out.bad e HE.out h0) h0 hlt);have d0:(e !=0)=true:=by simp[h0]
    clear h0;go_wp2;go_ret;exact .mk hbel1 (zr RR.out.symm)
   subst h0;have REST:Hid (¬(0<k∧∀j,j=k - 1→0≤ordL (nthC l j).inn inn)→caseE n ins outs l k=vecsE n outs (nthC l k)):=zhd fun h=>HR.out.rest HE.out fun hk0 j hj hle=>h ⟨hk0,fun j' hj'=>by subst hj hj';rw[HINN.out];exact hle⟩;by_cases hk0:0<k
   case pos=>
    obtain ⟨j,hj⟩:=zn (k - 1);have hjl:j<l.length:=by omega
    have q1:=QC.out j hjl;obtain ⟨u,_,_,cu1,_,_,iu1,_⟩:=(HV.out.ext hbel1).case hjl;have KO:Hid (∀m,Calls Tryz.prog 168 #[u,.slice a1 inn.length c1] (w1.drewN m) (QuietP (w1.drewN m) (.int .i64 (ordL (nthC l j).inn inn)))):=zhd fun m=>ziJ (iu1.drewN m) ((HIN.out.ext hx1).drewN m);obtain ⟨c,hc⟩:=zn (ordL (nthC l j).inn inn);rw[←hc]at KO;have w1':IntKind.i64.wrap ((k:Int) - 1)=j:=by rw[IntKind.wrap_i64];omega
    have w2':decide ((0:Int)<(k:Int))=true:=decide_eq_true (by omega);have w3':decide (0<k)=true:=decide_eq_true hk0;have w4':(0:Int)≤(j:Int):=by omega
    have w5':(j:Int)<(l.length:Int):=by omega
    have HUN:Hid (0≤c→caseE n ins outs l k=14):=zhd fun h=>HR.out.un HE.out hk0 j hj (by rw[←HINN.out,←hc];exact h);have HRE:Hid (¬0≤c→caseE n ins outs l k=vecsE n outs (nthC l k)):=zhd fun h=>REST.out fun h'=>h (by rw[hc];exact h'.2 j hj);have t3:=RT1.zc 3 rfl;have k0:=RC1.zc 0 rfl;clear hc hj iu1;by_cases hc0:0≤c
    case pos=>
     have RR:=zhd (HTR.out.stop HN.out HM.out 14 k HZ.out (HUN.out hc0) (by decide) hlt);go_wp2;go_quiet ((go_at_call 168;exact zG (KO.out _)));go_wp2;go_ret;exact .mk (zv hbel1 _) (zr RR.out.symm)
    have RV:=zhd (HRE.out hc0);go_wp2;go_quiet ((go_at_call 168;exact zG (KO.out _)));refine zU fun w2 hq2=>?_;clear q1 cu1 KO w1' w4' w5' t3 k0 HUN HRE REST;have RT2:=RT1.ext hq2.ext;have RC2:=RC1.ext hq2.ext;have hx2:=za hx1 hq2.ext;have hbel2:=za hbel1 hq2.ext;have t0:=RT2.zc 0 rfl;have t1:=RT2.zc 1 rfl;have t2:=RT2.zc 2 rfl;have t3:=RT2.zc 3 rfl;have k0:=RC2.zc 0 rfl;have k1:=RC2.zc 1 rfl;have k2:=RC2.zc 2 rfl;have KW:Hid (Calls Tryz.prog 169 #[.agg #[n,ins,outs,.slice ca l.length cc],.agg #[.slice a1 inn.length c1,.slice a2 on c2,.slice a3 cn c3]] w2 (Post w2 fun _ r=>r=.int .i64 (vecsE n outs (nthC l k)))):=zhd (ZF n ins outs (by rw[←HINN.out];exact HIN.out.ext hx2) (HOU.out.ext hx2) (HCA.out.ext hx2));rw[←RV.out]at KW;obtain ⟨e,he⟩:=zn (caseE n ins outs l k);rw[←he]at KW;have HE2:=zhd he.symm;clear he RV;go_wp2_with fail;refine KW.out.mono ?_;rintro _ w3 ⟨_,rfl,hb3,rfl⟩;have hbel3:=za hbel2 hb3;clear t0 t1 t2 t3 k0 k1 k2 KW;by_cases h0:e=0
    ·subst h0;have HZ2:=zhd (HZ.out.next HE2.out);have RT3:=RT2.ext hb3;go_wp2;go_roundw
     case rel=>exact ⟨k+1,by omega,by go_num,hbel3,RT3,HZ2⟩
     case measure=>simp[intOf];omega
    ·have RR:=zhd (HTR.out.stop HN.out HM.out e k HZ.out HE2.out h0 hlt);have d0:(e !=0)=true:=by simp[h0]
     clear h0;go_wp2;go_ret;exact .mk hbel3 (zr RR.out.symm)
   case neg=>
    obtain rfl:k=0:=by omega
    have RV:=zhd (REST.out fun h=>by omega);have w2':decide ((0:Int)<((0:Nat):Int))=false:=by simp
    go_wp2;go_quiet (fail);refine zU fun w2 hq2=>?_;clear REST;have RT2:=RT1.ext hq2.ext;have RC2:=RC1.ext hq2.ext;have hx2:=za hx1 hq2.ext;have hbel2:=za hbel1 hq2.ext;have t0:=RT2.zc 0 rfl;have t1:=RT2.zc 1 rfl;have t2:=RT2.zc 2 rfl;have t3:=RT2.zc 3 rfl;have k0:=RC2.zc 0 rfl;have k1:=RC2.zc 1 rfl;have k2:=RC2.zc 2 rfl;have KW:Hid (Calls Tryz.prog 169 #[.agg #[n,ins,outs,.slice ca l.length cc],.agg #[.slice a1 inn.length c1,.slice a2 on c2,.slice a3 cn c3]] w2 (Post w2 fun _ r=>r=.int .i64 (vecsE n outs (nthC l 0)))):=zhd (ZF n ins outs (by rw[←HINN.out];exact HIN.out.ext hx2) (HOU.out.ext hx2) (HCA.out.ext hx2));rw[←RV.out]at KW;obtain ⟨e,he⟩:=zn (caseE n ins outs l 0);rw[←he]at KW;have HE2:=zhd he.symm;clear he RV;go_wp2_with fail;refine KW.out.mono ?_;rintro _ w3 ⟨_,rfl,hb3,rfl⟩;have hbel3:=za hbel2 hb3;clear t0 t1 t2 t3 k0 k1 k2 KW;by_cases h0:e=0
    ·subst h0;have HZ2:=zhd (HZ.out.next HE2.out);have RT3:=RT2.ext hb3;go_wp2;go_roundw
     case rel=>exact ⟨0+1,by omega,by go_num,hbel3,RT3,HZ2⟩
     case measure=>simp[intOf];omega
    ·have RR:=zhd (HTR.out.stop HN.out HM.out e 0 HZ.out HE2.out h0 hlt);have d0:(e !=0)=true:=by simp[h0]
     clear h0;go_wp2;go_ret;exact .mk hbel3 (zr RR.out.symm)
  ·obtain rfl:k=l.length:=by omega
   have RR:=zhd (HTR.out.fine HN.out HM.out HZ.out);go_wp2;go_ret;exact .mk hb (zr RR.out.symm)
end Go.Proofs.YtiabbjolepnjkaaGreat
