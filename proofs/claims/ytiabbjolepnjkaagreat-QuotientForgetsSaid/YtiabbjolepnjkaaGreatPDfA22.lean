/- Part of the proof that the laws answer true for every input. -/
import Derived.Test.YtiabbjolepnjkaaGreatPDfA21
set_option linter.unusedSimpArgs false
set_option linter.unnecessarySimpa false
set_option linter.unusedVariables false
set_option maxRecDepth 100000
set_option maxHeartbeats 40000000
namespace Go.Proofs.YtiabbjolepnjkaaGreat
def lstV (T:List (List Int)) (ch:List Int) (lab:Nat→Int) (v:Nat):Nat:=(minT (fun w=>samB T ch lab v w) 0 (v+1)).toNat
theorem yU {T:List (List Int)} (hn:T.Nodup) (ch:List Int) (lab:Nat→Int) (v:Nat):lstV T ch lab v≤v∧samB T ch lab v (lstV T ch lab v)=true∧∀w,w<lstV T ch lab v→samB T ch lab v w=false:=by
 unfold lstV;rcases minF (fun w=>samB T ch lab v w) (v+1) 0 with ⟨_,h⟩ | ⟨t,h1,h2,h3,h4,h5⟩
 ·have:=h v (by omega) (by omega);rw[zaA hn]at this;cases this
 ·rw[h1,Int.toNat_natCast];exact ⟨by omega,h4,fun w hw=>h5 w (by omega) hw⟩
theorem zfW {T:List (List Int)} (hn:T.Nodup) {ch:List Int} {lab:Nat→Int} {v w:Nat} (h:samB T ch lab v w=true):lstV T ch lab v≤w:=by
 apply Decidable.byContradiction;intro hlt;have:=(yU hn ch lab v).2.2 w (by omega);rw[h]at this;cases this
theorem zea {N K:Nat} {T:List (List Int)} (hT:TabOK N K T) (hn:T.Nodup) {ch:List Int} {lab:Nat→Int} {v w:Nat} (hv:v<T.length) (hw:w<T.length):lstV T ch lab v=lstV T ch lab w↔samB T ch lab v w=true:=by
 obtain ⟨a1,a2,_⟩:=yU hn ch lab v;obtain ⟨b1,b2,_⟩:=yU hn ch lab w;constructor
 ·intro h;rw[←h]at b2;exact Ys hT hv hw a2 (zao b2)
 ·intro h;have h1:=zfW hn (Ys hT hv (by omega) h b2);have h2:=zfW hn (Ys hT hw (by omega) (zao h) a2);omega
theorem zhC {N K:Nat} {T:List (List Int)} (hT:TabOK N K T) (hn:T.Nodup) {ch:List Int} {lab:Nat→Int} {v:Nat} (hv:v<T.length):lstV T ch lab (lstV T ch lab v)=lstV T ch lab v:=by
 obtain ⟨a1,a2,_⟩:=yU hn ch lab v;exact ((zea hT hn hv (by omega)).2 a2).symm
theorem zhi {N K:Nat} {T:List (List Int)} (hT:TabOK N K T) (hn:T.Nodup) {ch:List Int} {lab:Nat→Int} {v w:Nat} (hv:v<T.length) (hw:w<T.length) (hl:lstV T ch lab w=w) (h:samB T ch lab v w=true):w=lstV T ch lab v:=by
 rw[(zea hT hn hv hw).2 h,hl]
def quoF (T:List (List Int)) (ch:List Int) (K:Nat):Nat→Nat→Int
 | 0,_=>0
 | m+1,v=>if rndT T v+m=K then ((lstV T ch (quoF T ch K m) v:Nat):Int) else quoF T ch K m v
theorem zaF {T:List (List Int)} {ch:List Int} {K m v:Nat} (h:K+1≤rndT T v+m):∀j,quoF T ch K (m+j) v=quoF T ch K m v
 | 0=>rfl
 | j+1=>by
  rw[show m+(j+1)=(m+j)+1 from rfl,show quoF T ch K ((m+j)+1) v=if rndT T v+(m+j)=K then ((lstV T ch (quoF T ch K (m+j)) v:Nat):Int) else quoF T ch K (m+j) v from rfl,if_neg (by omega)];exact zaF h j
theorem zj6 {T:List (List Int)} {ch:List Int} {K m v:Nat} (h:rndT T v+m=K) (j:Nat):quoF T ch K (m+1+j) v=((lstV T ch (quoF T ch K m) v:Nat):Int):=by
 rw[zaF (by omega) j,show quoF T ch K (m+1) v=if rndT T v+m=K then ((lstV T ch (quoF T ch K m) v:Nat):Int) else quoF T ch K m v from rfl,if_pos h]
def quoE (T:List (List Int)) (ch:List Int) (K v:Nat):Int:=quoF T ch K (K+1) v
theorem Zd {N K:Nat} {T:List (List Int)} (hT:TabOK N K T) {v:Nat} (hv:v<T.length):rndT T v≤K:=by
 obtain ⟨q,k,h⟩:=hT.2 v hv;rw[h.rnd];exact h.kl
theorem zc9 {N K:Nat} {T:List (List Int)} (hT:TabOK N K T) {ch:List Int} {v:Nat} (hv:v<T.length):quoE T ch K v=((lstV T ch (quoF T ch K (K - rndT T v)) v:Nat):Int):=by
 have:=Zd hT hv;unfold quoE;have h:=zj6 (T:=T) (ch:=ch) (K:=K) (m:=K - rndT T v) (v:=v) (by omega) (rndT T v);rw[show K - rndT T v+1+rndT T v=K+1 by omega]at h;exact h
theorem zf5 {N K:Nat} {T:List (List Int)} (hT:TabOK N K T) {ch:List Int} {v w:Nat} (hv:v<T.length) (hw:w<T.length):samB T ch (quoF T ch K (K - rndT T v)) v w=samB T ch (quoE T ch K) v w:=by
 have hk:=Zd hT hv;by_cases hpr:prcT T v=prcT T w∧rndT T v=rndT T w
 ·have hl:∀u,u<T.length→rndT T u=rndT T v+1→quoF T ch K (K - rndT T v) u=quoE T ch K u:=fun u hu h=>by
   unfold quoE;have h1:=Zd hT hu;have:=zaF (T:=T) (ch:=ch) (K:=K) (m:=K - rndT T v) (v:=u) (by omega) (rndT T v+1);rw[show K - rndT T v+(rndT T v+1)=K+1 by omega]at this;exact this.symm
  unfold samB;rw[Xm hT hv hw hpr.1 hl hpr.2,Xm hT hw hv hpr.1.symm (fun u hu h=>hl u hu (by rw[h,hpr.2])) hpr.2.symm]
 ·unfold samB;have:(decide (prcT T v=prcT T w)&&decide (rndT T v=rndT T w))=false:=by
   rw[Bool.and_eq_false_iff,decide_eq_false_iff_not,decide_eq_false_iff_not];by_cases h1:prcT T v=prcT T w
   ·exact .inr fun h2=>hpr ⟨h1,h2⟩
   ·exact .inl h1
  rw[this];rfl
theorem ziw {N K:Nat} {T:List (List Int)} (hT:TabOK N K T) (hn:T.Nodup) {ch:List Int} {v w:Nat} (hv:v<T.length) (hw:w<T.length):quoE T ch K v=quoE T ch K w↔samB T ch (quoE T ch K) v w=true:=by
 rw[zc9 hT hv,zc9 hT hw];constructor
 ·intro h;have e:lstV T ch (quoF T ch K (K - rndT T v)) v=lstV T ch (quoF T ch K (K - rndT T w)) w:=by omega
  obtain ⟨a1,a2,_⟩:=yU hn ch (quoF T ch K (K - rndT T v)) v;obtain ⟨b1,b2,_⟩:=yU hn ch (quoF T ch K (K - rndT T w)) w;have r1:=(yn.1 a2).2.1;have r2:=(yn.1 b2).2.1;rw[←e]at r2;have r3:rndT T v=rndT T w:=by omega
  rw[←r3]at e;rw[←zf5 hT hv hw];exact (zea hT hn hv hw).1 e
 ·intro h;have r3:=(yn.1 h).2.1;rw[←zf5 hT hv hw]at h;rw[←r3,(zea hT hn hv hw).2 h]
def quoL (s:SysF) (ch:List Int):List Int:=labs (keys (quoE s.tab ch s.K) s.tab.length)
theorem zP (s:SysF) (ch:List Int):(quoL s ch).length=s.tab.length:=by simp[quoL,labs,keys]
theorem Xv {s:SysF} (hg:GoodS s s.N s.K) {ch:List Int} {v w:Nat} (hv:v<s.tab.length) (hw:w<s.tab.length):nth (quoL s ch) v=nth (quoL s ch) w↔samB s.tab ch (quoE s.tab ch s.K) v w=true:=by
 unfold quoL;rw[qQ hv hw,ziw hg.tab hg.nodup hv hw]
theorem Yy {T:List (List Int)} {lab lab':Nat→Int} (h:∀i j,i<T.length→j<T.length→(lab i=lab j↔lab' i=lab' j)) (v w:Nat):folB T lab v w=folB T lab' v w:=by
 rw[Bool.eq_iff_iff,yH,yH];constructor<;>intro hh u hu h1<;>obtain ⟨h2,h3⟩:=hh u hu h1<;>have h4:=(ZR (T:=T) (u:=u) (w:=v) (b:=(w:Int))).2
 ·exact ⟨h2,(h _ _ (by omega) hu).1 h3⟩
 ·exact ⟨h2,(h _ _ (by omega) hu).2 h3⟩
theorem zeh {s:SysF} (hg:GoodS s s.N s.K) {ch:List Int} {v w:Nat} (hv:v<s.tab.length) (hw:w<s.tab.length):nth (quoL s ch) v=nth (quoL s ch) w↔samB s.tab ch (nth (quoL s ch)) v w=true:=by
 rw[Xv hg hv hw];have hl:∀i j,i<s.tab.length→j<s.tab.length→(quoE s.tab ch s.K i=quoE s.tab ch s.K j↔nth (quoL s ch) i=nth (quoL s ch) j):=fun i j hi hj=>by unfold quoL;exact (qQ hi hj).symm
 unfold samB;rw[Yy hl,Yy hl]
def FitP (T:List (List Int)) (ch cl:List Int):Prop:=∀v w,v<T.length→w<T.length→v≠w→nth cl v=nth cl w→(prcT T v=prcT T w∧rndT T v=rndT T w∧nth ch v=nth ch w)∧folB T (nth cl) v w=true
theorem zje {T:List (List Int)} {ch cl:List Int} (h:FitP T ch cl) {v w:Nat} (hv:v<T.length) (hw:w<T.length) (hne:v≠w) (hc:nth cl v=nth cl w):samB T ch (nth cl) v w=true:=by
 obtain ⟨⟨a,b,c⟩,d⟩:=h v w hv hw hne hc;exact yn.2 ⟨a,b,c,d,(h w v hw hv (fun e=>hne e.symm) hc.symm).2⟩
def fstC (cl:List Int) (v:Nat):Nat:=(minT (fun w=>decide (nth cl w=nth cl v)) 0 (v+1)).toNat
theorem qK (cl:List Int) (v:Nat):fstC cl v≤v∧nth cl (fstC cl v)=nth cl v∧∀w,w<fstC cl v→nth cl w≠nth cl v:=by
 unfold fstC;rcases minF (fun w=>decide (nth cl w=nth cl v)) (v+1) 0 with ⟨_,h⟩ | ⟨t,h1,h2,h3,h4,h5⟩
 ·have:=h v (by omega) (by omega);rw[decide_eq_true rfl]at this;cases this
 ·rw[h1,Int.toNat_natCast];exact ⟨by omega,of_decide_eq_true h4,fun w hw=>of_decide_eq_false (h5 w (by omega) hw)⟩
theorem ziA {cl:List Int} {v w:Nat} (h:nth cl v=nth cl w):fstC cl v=fstC cl w:=by
 obtain ⟨a1,a2,a3⟩:=qK cl v;obtain ⟨b1,b2,b3⟩:=qK cl w;rcases Nat.lt_trichotomy (fstC cl v) (fstC cl w) with h1 | h1 | h1
 ·exact absurd (a2.trans h) (b3 _ h1)
 ·exact h1
 ·exact absurd (b2.trans h.symm) (a3 _ h1)
theorem zcR {N K:Nat} {T:List (List Int)} (hT:TabOK N K T) (hn:T.Nodup) {ch cl:List Int}:FitP T ch cl↔∀v,v<T.length→samB T ch (nth cl) v (fstC cl v)=true:=by
 constructor
 ·intro h v hv;obtain ⟨a1,a2,_⟩:=qK cl v;by_cases e:v=fstC cl v
  ·rw[←e];exact zaA hn _ _ _
  ·exact zje h hv (by omega) e a2.symm
 ·intro h v w hv hw hne hc;have h1:=h v hv;have h2:=h w hw;rw[←ziA hc]at h2;obtain ⟨a,b,c,d,_⟩:=yn.1 (Ys hT hv hw h1 (zao h2));exact ⟨⟨a,b,c⟩,d⟩
theorem xY {s:SysF} (hg:GoodS s s.N s.K) (ch:List Int):FitP s.tab ch (quoL s ch):=(zcR hg.tab hg.nodup).2 fun v hv=>by
 obtain ⟨a1,a2,_⟩:=qK (quoL s ch) v;exact (zeh hg hv (by omega)).1 a2.symm
theorem zd8 {N K:Nat} {T:List (List Int)} (hT:TabOK N K T) {u v w y:Nat} (hu:u<T.length) (hv:v<T.length) (h:hrsB T u v=true) (hy:repT T u v w=(y:Int)):y<T.length∧prcT T y=prcT T u∧rndT T y=rndT T u:=by
 unfold repT at hy;rcases Qz (T:=T) (x:=(nthL T u).set (3+prcT T v) (w:Int)) with ⟨h1,_⟩ | ⟨z,h1,h2,h3⟩
 ·omega
 ·obtain rfl:z=y:=by omega
  have e:∀i,i<3→nth (nthL T z) i=nth (nthL T u) i:=fun i hi=>by
   rw[h3];by_cases hl:3+prcT T v<(nthL T u).length
   ·rw[zel hl,if_neg (by omega)]
   ·rw[List.set_eq_of_length_le (by omega)]
  exact ⟨h2,by unfold prcT;rw[e 0 (by omega)],by unfold rndT;rw[e 1 (by omega)]⟩
def alkB (T:List (List Int)) (ch:List Int) (v w:Nat):Bool:=(decide (prcT T v=prcT T w)&&decide (rndT T v=rndT T w))&&decide (nth ch v=nth ch w)
theorem zf0 {T:List (List Int)} {ch:List Int} {v w:Nat}:alkB T ch v w=true↔(prcT T v=prcT T w∧rndT T v=rndT T w)∧nth ch v=nth ch w:=by
 unfold alkB;rw[Bool.and_eq_true,Bool.and_eq_true,decide_eq_true_iff,decide_eq_true_iff,decide_eq_true_iff]
def labP (T:List (List Int)) (ch:List Int) (K m j u:Nat):Int:=if rndT T u+m=K∧u<j then ((lstV T ch (quoF T ch K m) u:Nat):Int) else quoF T ch K m u
theorem Qu (T:List (List Int)) (ch:List Int) (K m:Nat):labP T ch K m 0=quoF T ch K m:=by
 funext u;unfold labP;rw[if_neg (by omega)]
theorem zfF {T:List (List Int)} {ch:List Int} {K m u:Nat} (hu:u<T.length):labP T ch K m T.length u=quoF T ch K (m+1) u:=by
 unfold labP;show _=if rndT T u+m=K then ((lstV T ch (quoF T ch K m) u:Nat):Int) else quoF T ch K m u;by_cases h:rndT T u+m=K
 ·rw[if_pos ⟨h,hu⟩,if_pos h]
 ·rw[if_neg (fun e=>h e.1),if_neg h]
theorem zhe {T:List (List Int)} {ch:List Int} {K m j:Nat} (h:rndT T j+m≠K):labP T ch K m (j+1)=labP T ch K m j:=by
 funext u
 unfold labP;by_cases h1:rndT T u+m=K∧u<j
 ·rw[if_pos h1,if_pos ⟨h1.1,by omega⟩]
 ·rw[if_neg h1,if_neg];rintro ⟨a,b⟩;refine h1 ⟨a,?_⟩;have:u≠j:=fun e=>h (e▸a);omega
theorem zgi {T:List (List Int)} {ch:List Int} {K m j:Nat} (h:rndT T j+m=K) (u:Nat):labP T ch K m (j+1) u=if u=j then ((lstV T ch (quoF T ch K m) j:Nat):Int) else labP T ch K m j u:=by
 unfold labP;by_cases e:u=j
 ·subst e;rw[if_pos ⟨h,by omega⟩,if_pos rfl]
 ·rw[if_neg e];by_cases h1:rndT T u+m=K∧u<j
  ·rw[if_pos h1,if_pos ⟨h1.1,by omega⟩]
  ·rw[if_neg h1,if_neg];rintro ⟨a,b⟩;exact h1 ⟨a,by omega⟩
structure LabI (T:List (List Int)) (ch:List Int) (K m j:Nat) (L:List Int):Prop where
 len:L.length=T.length
 at':∀u,u<T.length→nth L u=labP T ch K m j u
structure LabA (T:List (List Int)) (ch:List Int) (K m:Nat) (L:List Int):Prop where
 len:L.length=T.length
 at':∀u,u<T.length→K<rndT T u+m→nth L u=quoF T ch K m u
theorem LabI.a {T:List (List Int)} {ch:List Int} {K m j:Nat} {L:List Int} (h:LabI T ch K m j L):LabA T ch K m L:=⟨h.len,fun u hu hk=>by
 rw[h.at' u hu];unfold labP;rw[if_neg (by omega)]⟩
theorem nthSet {l:List Int} {i j:Nat} {b:Int} (hi:i<l.length):nth (l.set i b) j=if j=i then b else nth l j:=by
 unfold nth;rw[List.getD_eq_getElem?_getD,List.getD_eq_getElem?_getD,List.getElem?_set];by_cases e:i=j
 ·subst e;rw[if_pos rfl,if_pos hi,if_pos rfl];rfl
 ·rw[if_neg e,if_neg (fun h=>e h.symm)]
theorem LabA.set {T:List (List Int)} {ch:List Int} {K m v:Nat} {L:List Int} (h:LabA T ch K m L) (hv:v<T.length) (hk:rndT T v+m=K) (x:Int):LabA T ch K m (L.set v x):=⟨by rw[List.length_set];exact h.len,fun u hu hku=>by
 rw[nthSet (by rw[h.len];exact hv),if_neg (by intro e;subst e;omega)];exact h.at' u hu hku⟩
theorem LabI.start {T:List (List Int)} {ch:List Int} {K m:Nat} {L:List Int} (h:LabI T ch K m T.length L):LabI T ch K (m+1) 0 L:=⟨h.len,fun u hu=>by rw[h.at' u hu,zfF hu,Qu]⟩
theorem LabI.skip {T:List (List Int)} {ch:List Int} {K m j:Nat} {L:List Int} (h:LabI T ch K m j L) (hj:rndT T j+m≠K):LabI T ch K m (j+1) L:=⟨h.len,fun u hu=>by rw[zhe hj];exact h.at' u hu⟩
theorem LabI.step {T:List (List Int)} {ch:List Int} {K m j:Nat} {L:List Int} (h:LabI T ch K m j L) (hj:rndT T j+m=K) (hjl:j<T.length):LabI T ch K m (j+1) (L.set j ((lstV T ch (quoF T ch K m) j:Nat):Int)):=⟨by rw[List.length_set];exact h.len,fun u hu=>by
 rw[nthSet (by rw[h.len];exact hjl),zgi hj,h.at' u hu]⟩
theorem LabI.zero (T:List (List Int)) (ch:List Int) (K:Nat):LabI T ch K 0 0 (List.replicate T.length 0):=⟨by simp,fun u hu=>by
 rw[Qu];show nth (List.replicate T.length 0) u=0;simp[nth,hu]⟩
theorem LabI.done {T:List (List Int)} {ch:List Int} {K:Nat} {L:List Int} (h:LabI T ch K (K+1) 0 L):L=keys (quoE T ch K) T.length:=by
 apply List.ext_getElem
 ·rw[length_keys,h.len]
 ·intro i h1 h2;have h3:i<T.length:=by rw[←h.len];exact h1
  have:=h.at' i h3;rw[yM h1,Qu]at this;rw[this];simp[keys,quoE]
theorem zgp {N K:Nat} {T:List (List Int)} (hT:TabOK N K T) {ch L:List Int} {m v w:Nat} (hL:LabA T ch K m L) (hk:rndT T v+m=K) (hv:v<T.length) (hw:w<T.length) (hp:prcT T v=prcT T w) (hr:rndT T v=rndT T w):folB T (nth L) v w=folB T (quoF T ch K m) v w:=
 Xm hT hv hw hp (fun u hu h=>hL.at' u hu (by omega)) hr
theorem zjv {N K:Nat} {T:List (List Int)} (hT:TabOK N K T) {ch L:List Int} {m v w:Nat} (hL:LabA T ch K m L) (hk:rndT T v+m=K) (hv:v<T.length) (hw:w<T.length):samB T ch (nth L) v w=samB T ch (quoF T ch K m) v w:=by
 by_cases hpr:prcT T v=prcT T w∧rndT T v=rndT T w
 ·unfold samB;rw[zgp hT hL hk hv hw hpr.1 hpr.2,zgp hT hL (by omega) hw hv hpr.1.symm hpr.2.symm]
 ·unfold samB;have:(decide (prcT T v=prcT T w)&&decide (rndT T v=rndT T w))=false:=by
   rw[Bool.and_eq_false_iff,decide_eq_false_iff_not,decide_eq_false_iff_not];by_cases h1:prcT T v=prcT T w
   ·exact .inr fun h2=>hpr ⟨h1,h2⟩
   ·exact .inl h1
  rw[this];rfl
def firL (T:List (List Int)) (ch:List Int) (K m j:Nat):List Nat:=(List.range j).filter fun w=>decide (rndT T w+m=K)&&decide (lstV T ch (quoF T ch K m) w=w)
theorem zdp {T:List (List Int)} {ch:List Int} {K m j w:Nat}:w∈firL T ch K m j↔w<j∧rndT T w+m=K∧lstV T ch (quoF T ch K m) w=w:=by
 unfold firL;rw[List.mem_filter,List.mem_range,Bool.and_eq_true,decide_eq_true_iff,decide_eq_true_iff]
theorem zjJ (T:List (List Int)) (ch:List Int) (K m j:Nat):(firL T ch K m j).length≤j:=by
 unfold firL;exact Nat.le_trans (List.length_filter_le _ _) (by simp)
theorem zil {T:List (List Int)} {ch:List Int} {K m j:Nat} (h:rndT T j+m≠K):firL T ch K m (j+1)=firL T ch K m j:=by
 unfold firL;rw[List.range_succ,List.filter_append,List.filter_cons,decide_eq_false h];simp
theorem ziW {T:List (List Int)} {ch:List Int} {K m j:Nat} (h:lstV T ch (quoF T ch K m) j≠j):firL T ch K m (j+1)=firL T ch K m j:=by
 unfold firL;rw[List.range_succ,List.filter_append,List.filter_cons,decide_eq_false h];simp
theorem zjw {T:List (List Int)} {ch:List Int} {K m j:Nat} (h0:rndT T j+m=K) (h:lstV T ch (quoF T ch K m) j=j):firL T ch K m (j+1)=firL T ch K m j++[j]:=by
 unfold firL;rw[List.range_succ,List.filter_append,List.filter_cons,decide_eq_true h,decide_eq_true h0];rfl
theorem ziQ {N K:Nat} {T:List (List Int)} (hT:TabOK N K T) (hn:T.Nodup) {ch:List Int} {m v w:Nat} (hv:v<T.length) (hw:w∈firL T ch K m v) (h:samB T ch (quoF T ch K m) v w=true):lstV T ch (quoF T ch K m) v=w:=by
 obtain ⟨h1,_,h3⟩:=zdp.1 hw;exact (zhi hT hn hv (by omega) h3 h).symm
theorem zis {N K:Nat} {T:List (List Int)} (hT:TabOK N K T) (hn:T.Nodup) {ch:List Int} {m v:Nat} (hv:v<T.length) (hk:rndT T v+m=K) (h:∀w∈firL T ch K m v,samB T ch (quoF T ch K m) v w=false):lstV T ch (quoF T ch K m) v=v:=by
 obtain ⟨a1,a2,_⟩:=yU hn ch (quoF T ch K m) v;apply Decidable.byContradiction;intro hne;have hr:=(yn.1 a2).2.1;have:=h _ (zdp.2 ⟨by omega,by omega,zhC hT hn hv⟩);rw[a2]at this;cases this
end Go.Proofs.YtiabbjolepnjkaaGreat
namespace Go.Proofs.YtiabbjolepnjkaaGreat
open Go.RowKit
attribute [local go_sem ↓] Go.wp_at_zero Go.wp_at_succ
theorem Zr {N K:Nat} {T:List (List Int)} (hT:TabOK N K T) {u:Nat} (hu:u<T.length):(nthL T u).length=8:=by
 obtain ⟨q,k,h⟩:=hT.2 u hu;exact h.len
theorem yO {N K:Nat} {T:List (List Int)} (hT:TabOK N K T) {u:Nat} (hu:u<T.length):nth (nthL T u) 0=(prcT T u:Int)∧prcT T u<5∧prcT T u<N:=by
 obtain ⟨q,k,h⟩:=hT.2 u hu;have:=h.ql;have:=hT.1;rw[h.prc];exact ⟨h.q0,by omega,by omega⟩
theorem yA {N K:Nat} {T:List (List Int)} (hT:TabOK N K T) {u:Nat} (hu:u<T.length):nth (nthL T u) 1=(rndT T u:Int)∧rndT T u≤K:=by
 obtain ⟨q,k,h⟩:=hT.2 u hu;rw[h.rnd];exact ⟨h.k0,h.kl⟩
theorem zbx {x:List Int} (h:x.length=8) {j:Nat} (hj:j<5) (b:Int):(x.map (Value.int .i64)).set (3+j) (.int .i64 b)=(x.set (3+j) b).map (Value.int .i64):=by rw[List.map_set]
theorem zgr {x:List Int} (h:x.length=8) (hw:∀y∈x,WF y) {j:Nat} {b:Int} (hb:WF b):ViewOK (x.set j b):=⟨by rw[List.length_set];exact h,fun y hy=>by
 rcases List.mem_or_eq_of_mem_set hy with h1 | h1
 ·exact hw y h1
 ·rw[h1];exact hb⟩
theorem zhJ {S:Nat→Prop} {w:World} {v:Value} {T:List (List Int)} (h:Sl (kFlat 8) S w v T) {u:Nat} (hu:u<T.length):∀y∈nthL T u,WF y:=by
 obtain ⟨a,c,rfl,_⟩:=h.form;exact (h.num hu).2.1
theorem zjG {T:List (List Int)} {lab:Nat→Int} {v w k:Nat} (hk:k<T.length) (hh:hrsB T k v=true) (h:¬(0≤repT T k v w∧lab (repT T k v w).toNat=lab k)):folB T lab v w=false:=by
 cases e:folB T lab v w with
 | false=>rfl
 | true=>exact absurd (yH.1 e k hk hh) h
theorem zj7 (m:Nat):(m=0∧Value.int .i64 ((m:Int) - 1)=.int .i64 (-1))∨∃k,m=k+1∧Value.int .i64 ((m:Int) - 1)=.int .i64 (k:Int):=by
 cases m with
 | zero=>exact .inl ⟨rfl,rfl⟩
 | succ k=>exact .inr ⟨k,rfl,zr (by omega)⟩
theorem rowInt {w:World} {g:Nat} {t:TypeId} {l:List Int} (R:Row w g t (l.map (Value.int .i64))) {k:Nat} (h:k<l.length):w.cell? ⟨g,k,none⟩=some (.int .i64 (nth l k)):=R.cell (j:=k) (by rw[List.getElem?_map,get?_nth h];rfl)
theorem rowSet {w:World} {g:Nat} {t:TypeId} {l:List Int} (R:Row w g t (l.map (Value.int .i64))) (k:Nat) (x:Int):Row (w.setCell ⟨g,k,none⟩ (.int .i64 x)) g t ((l.set k x).map (Value.int .i64)):=by
 rw[List.map_set];exact R.set k _
theorem zgq {N K:Nat} {T:List (List Int)} (hT:TabOK N K T) (hn:T.Nodup) {ch:List Int} (hm:T.length≤100000):∀{m u:Nat},u<T.length→WF (quoF T ch K m u)
 | 0,u,hu=>WF.small (show -1000000000≤(0:Int)∧(0:Int)≤1000000000 by decide)
 | m+1,u,hu=>by
  show WF (if rndT T u+m=K then ((lstV T ch (quoF T ch K m) u:Nat):Int) else quoF T ch K m u);split
  ·have:=(yU hn ch (quoF T ch K m) u).1;exact WF.small (by omega)
  ·exact zgq hT hn hm hu
theorem zkj {N K:Nat} {T:List (List Int)} (hT:TabOK N K T) (hn:T.Nodup) {ch:List Int} (hm:T.length≤100000) {m j u:Nat} (hu:u<T.length):WF (labP T ch K m j u):=by
 unfold labP;split
 ·have:=(yU hn ch (quoF T ch K m) u).1;exact WF.small (by omega)
 ·exact zgq hT hn hm hu
theorem ziN {T:List (List Int)} (ch:List Int) (K:Nat) (hm:T.length≤100000) (hn:T.Nodup) {N:Nat} (hT:TabOK N K T):∀x∈keys (quoE T ch K) T.length,WF x:=fun x hx=>by
 obtain ⟨i,hi,rfl⟩:=zat.1 hx;rw[zc9 hT hi];have:=(yU hn ch (quoF T ch K (K - rndT T i)) i).1;exact WF.small (by omega)
def ClaR (B:Nat) (s:SysF) (ch:List Int) (w':World) (r:Value):Prop:=(ruleE s ch=0∧∃u,r=.tuple #[u,.int .i64 0]∧Ints (fun b=>B≤b) w' u (quoL s ch))∨(ruleE s ch≠0∧r=.tuple #[.slice none 0 0,ruleE s ch])
theorem tup2 {a a' b b':Int} (h:a=a') (h':b=b'):Value.tuple #[a,b]=Value.tuple #[a',b']:=by rw[h,h']
theorem yj {S:Nat→Prop} {w:World} {v:Value} {s:SysF} {ch:List Int} (h:SysV S w v s) (h0:ruleE s ch=0):GoodS s s.N s.K∧ch.length=s.tab.length:=⟨qG (ZY h0).1 h.moves8,(ZY h0).2.1⟩
theorem zy {P:Program} {Q:Exit→Act→World→Prop} {md:Region.Mode} {S:World→Prop} {X:Nat→Bool} {l:List Oper} (i:Nat) {oi:Oper} {fuel:Nat} {listed:Array Bool} {a:Act} {w:World} (hi:l[i]? =some oi)
  (hf:(Region.noSelect l.toArray&&(Region.free md l.toArray listed i&&((Region.ready md l.toArray listed).contains i&&waitFor md l.toArray X i)))=true)
  (hQ:∀c a w,Q (.panic c) (a.put oi.dst undef) w→Q (.panic c) a w) (hw:Region.wanted oi (yielded l.toArray a.tmps)=false) (hS:S w)
  (h:AnyE P md l.toArray Q S X fuel (listed.setIfInBounds i true) (a.put oi.dst undef) w):AnyE P md l.toArray Q S X (fuel+1) listed a w:=by
 simp only[Bool.and_eq_true]at hf;exact X0 (by simpa using hi) hf.1 (by simp only[Bool.and_eq_true];exact hf.2) hQ (.inr ⟨hw,rfl⟩) hS h
def fitP (T:List (List Int)) (ch cl:List Int) (v w:Nat):Prop:=v≠w→nth cl v=nth cl w→alkB T ch v w=true∧folB T (nth cl) v w=true
def fitB (T:List (List Int)) (ch cl:List Int):Bool:=(List.range T.length).all fun v=>(List.range T.length).all fun w=>decide (v=w)||(!decide (nth cl v=nth cl w)||(alkB T ch v w&&folB T (nth cl) v w))
theorem zjD {T:List (List Int)} {ch cl:List Int}:fitB T ch cl=true↔∀v w,v<T.length→w<T.length→fitP T ch cl v w:=by
 unfold fitB fitP;simp only[List.all_eq_true,List.mem_range,Bool.or_eq_true,Bool.and_eq_true,Bool.not_eq_true',decide_eq_true_iff,decide_eq_false_iff_not];constructor
 ·intro h v w hv hw hne hc;rcases h v hv w hw with h1 | h1 | h1
  ·exact absurd h1 hne
  ·exact absurd hc h1
  ·exact h1
 ·intro h v hv w hw;by_cases e:v=w
  ·exact .inl e
  ·by_cases hc:nth cl v=nth cl w
   ·exact .inr (.inr (h v w hv hw e hc))
   ·exact .inr (.inl hc)
theorem Qj {T:List (List Int)} {ch cl:List Int}:fitB T ch cl=true↔FitP T ch cl:=by
 rw[zjD];constructor
 ·intro h v w hv hw hne hc;obtain ⟨h1,h2⟩:=h v w hv hw hne hc;obtain ⟨⟨a,b⟩,c⟩:=zf0.1 h1;exact ⟨⟨a,b,c⟩,h2⟩
 ·intro h v w hv hw hne hc;obtain ⟨⟨a,b,c⟩,d⟩:=h v w hv hw hne hc;exact ⟨zf0.2 ⟨⟨a,b⟩,c⟩,d⟩
def hrdL (T:List (List Int)) (k w:Nat):List Int:=((List.range k).filter fun u=>hrsB T u w).map fun u:Nat=>(u:Int)
def hrdLL (T:List (List Int)):List (List Int):=(List.range T.length).map (hrdL T T.length)
theorem zib {T:List (List Int)} {w:Nat} (h:w<T.length):nthL (hrdLL T) w=hrdL T T.length w:=by simp[hrdLL,nthL,h]
theorem QV (T:List (List Int)):(hrdLL T).length=T.length:=by simp[hrdLL]
structure ScnG (s:SysF) (ch:List Int):Prop where
 good:GoodS s s.N s.K
 len:ch.length=s.tab.length
 few:s.tab.length≤120
structure ScnV (A:Nat→Prop) (w:World) (g:Nat) (s:SysF) (ch:List Int):Prop where
 dat:ScnG s ch
 ag:A g
 mem:∃ca cc sa sc ta tc xa xc a2 c2 la lc mb,Row w g 160 [s.p.n,s.p.ins,s.p.outs,.slice ca s.p.cs.length cc,s.p.an,.slice sa s.p.st.length sc,s.p.rounds,s.tn,.slice ta s.tab.length tc,.slice xa s.ex.length xc,.slice a2 ch.length c2,.map (some mb),.slice la s.tab.length lc]∧A mb∧MapV viewKey w mb (numM s.tab) s.tab.length∧Sl (kFlat 8) A w (.slice ta s.tab.length tc) s.tab∧Ints A w (.slice a2 ch.length c2) ch∧Lists A w (.slice la s.tab.length lc) (hrdLL s.tab)
theorem ScnV.agree {A:Nat→Prop} {w w':World} {g:Nat} {s:SysF} {ch:List Int} (h:ScnV A w g s ch) (hw:Agree A w w'):ScnV A w' g s ch:=by
 obtain ⟨h1,h2,ca,cc,sa,sc,ta,tc,xa,xc,a2,c2,la,lc,mb,r1,r2,r3,r4,r5,r6⟩:=h;exact ⟨h1,h2,ca,cc,sa,sc,ta,tc,xa,xc,a2,c2,la,lc,mb,r1.agree hw h2,r2,r3.agree hw r2,r4.agree hw,r5.agree hw,r6.agree hw⟩
theorem ScnV.ext {A:Nat→Prop} {w w':World} {g:Nat} {s:SysF} {ch:List Int} (h:ScnV A w g s ch) (hw:Below w.heap.size w w'):ScnV A w' g s ch:=h.agree (.of_ext hw)
theorem ScnV.lt {A:Nat→Prop} {w:World} {g:Nat} {s:SysF} {ch:List Int} (h:ScnV A w g s ch):g<w.heap.size:=by
 obtain ⟨ca,cc,sa,sc,ta,tc,xa,xc,a2,c2,la,lc,mb,r1,_⟩:=h.mem;exact r1.lt
theorem ScnV.mono {A A':Nat→Prop} {w:World} {g:Nat} {s:SysF} {ch:List Int} (h:ScnV A w g s ch) (hA:∀b,A b→A' b):ScnV A' w g s ch:=by
 obtain ⟨h1,h2,ca,cc,sa,sc,ta,tc,xa,xc,a2,c2,la,lc,mb,r1,r2,r3,r4,r5,r6⟩:=h;exact ⟨h1,hA _ h2,ca,cc,sa,sc,ta,tc,xa,xc,a2,c2,la,lc,mb,r1,hA _ r2,r3,r4.mono hA,r5.mono hA,r6.mono hA⟩
theorem ScnV.block {A:Nat→Prop} {w:World} {g:Nat} {s:SysF} {ch:List Int} (h:ScnV A w g s ch):ScnV (fun b=>A b∧b<w.heap.size) w g s ch:=by
 obtain ⟨h1,h2,ca,cc,sa,sc,ta,tc,xa,xc,a2,c2,la,lc,mb,r1,r2,r3,r4,r5,r6⟩:=h;exact ⟨h1,⟨h2,r1.lt⟩,ca,cc,sa,sc,ta,tc,xa,xc,a2,c2,la,lc,mb,r1,⟨r2,r3.lt⟩,r3,r4.block,Ints.block r5 0,r6.block⟩
theorem YM {A:Nat→Prop} {w:World} {g:Nat} {s:SysF} {ch:List Int} {u x:Nat} {b:Int} (h:ScnV A w g s ch) (hu:u<s.tab.length) (hx:x<s.tab.length) (hb:WF b):
  Calls Tryz.prog 57 #[.pointer (some ⟨g,0,none⟩),u,x,b] w (Post w fun _ r=>r=.int .i64 (repT s.tab u x b)):=by
 obtain ⟨ca,cc,sa,sc,ta,tc,xa,xc,a2,c2,la,lc,mb,R,_,hM,ht,hr,hL⟩:=h.mem;obtain ⟨hg,hlen,hfew⟩:=h.dat
 obtain ⟨_,_,hee,tad,_⟩:=ht.form2;cases hee;obtain ⟨i0,hi,hz⟩:=zK zO;have HQ:=zhd (zM Tryz.underlying30 hi hz tad);have HTB:=zhd hg.tab;obtain ⟨e0,p5,_⟩:=yO HTB.out hx;have l8:=Zr HTB.out hu;have HVO:=zhd (zgr l8 (zhJ ht hu) (j:=3+prcT s.tab x) hb);have HR:Hid (repT s.tab u x b=(if (nthL s.tab u).set (3+prcT s.tab x) b∈s.tab then ((idxV s.tab ((nthL s.tab u).set (3+prcT s.tab x) b):Nat):Int) else -1)):=zhd rfl;obtain ⟨r,hrr⟩:=zn (repT s.tab u x b);rw[←hrr]at HR ⊢;obtain ⟨y,hy⟩:=zn (nthL s.tab u);obtain ⟨q,hq⟩:=zn (prcT s.tab x);rw[←hq]at e0 p5 HR HVO;rw[←hy]at l8 HR HVO;have uq:=HQ.out u hu;have xq:=HQ.out x hx;obtain ⟨u0,ur⟩:=ht.nums (k:=u) hu (by decide);have x0:=(ht.nums (k:=x) hx (by decide)).1;rw[e0]at x0;rw[←hy]at u0 ur;have u1:=ur 1 (by decide);have u2:=ur 2 (by decide);have u3:=ur 3 (by decide);have u4:=ur 4 (by decide);have u5:=ur 5 (by decide);have u6:=ur 6 (by decide);have u7:=ur 7 (by decide);have bu:=World.block_lt_of_cell? _ _ u0;have bx:=World.block_lt_of_cell? _ _ x0;have g8:=R.zc 8 rfl;have lg:=R.lt;have ex:=ze w (.cells #[nth y 0,nth y 1,nth y 2,nth y 3,nth y 4,nth y 5,nth y 6,nth y 7] 65);have RX:Row (w.alloc (.cells #[nth y 0,nth y 1,nth y 2,nth y 3,nth y 4,nth y 5,nth y 6,nth y 7] 65)) w.heap.size 65 (y.map (Value.int .i64)):=by rw[cells8 l8];exact zi w [nth y 0,nth y 1,nth y 2,nth y 3,nth y 4,nth y 5,nth y 6,nth y 7] 65
 have xi:=qU w.heap.size 3 p5;have HL8:=zhd l8;have HMPw:=zhd hM;have HRW:=zhd R;clear ur ht hr hL tad hi hz hrr hy hq e0 hg HQ HTB l8 hu hx hb hlen hfew h hM R;go_enter Tryz.func57,Tryz.ntmps57;go_upto_region 2 with fail;obtain ⟨wx,hwx⟩:=zn (w.alloc (.cells #[nth y 0,nth y 1,nth y 2,nth y 3,nth y 4,nth y 5,nth y 6,nth y 7] 65));obtain ⟨B1,hB1⟩:=zn w.heap.size;replace x0:=zm x0 ex;have R2:=HRW.out.ext ex;have HMX:=zhd (HMPw.out.ext ex);have hgB:g≠B1:=by omega
 have hmB:mb≠B1:=by have:=HMPw.out.lt;omega
 rw[←hwx]at RX R2 ex x0 HMX ⊢;rw[←hB1]at RX xi ⊢;have hB1w:w.heap.size≤B1:=by omega
 clear hwx hB1 u0 u1 u2 u3 u4 u5 u6 u7 bu bx g8 lg HRW HMPw;have R22:=R2.grown (zj wx B1 (3+q) (.int .i64 b)) (fun e=>hgB (by injection e with e;exact e.symm));have HM2:=zhd (HMX.out.grown (zj wx B1 (3+q) (.int .i64 b)) (fun e=>hmB (by injection e with e;exact e.symm)));have RX2:=RX.set (3+q) (.int .i64 b);rw[zbx HL8.out p5,cells8 (show (y.set (3+q) b).length=8 by rw[List.length_set];exact HL8.out)]at RX2;have ex3:=ex.setCell (p:=⟨B1,3+q,none⟩) hB1w (.int .i64 b);have cx:wx.cell? ⟨B1,3+q,none⟩=some (.int .i64 (nth y (3+q))):=RX.cell (by rw[List.getElem?_map,get?_nth (by rw[HL8.out];omega)];rfl);have fx:=RX.free (3+q);have lx:=RX.lt;have bx:=World.block_lt_of_cell? _ _ x0;have g8:=R2.zc 8 rfl;have lg:=R2.lt;clear RX ex R2 HMX;go_upto_region 3 with fail;clear g8 lg x0 cx fx lx bx xq xi uq;obtain ⟨W2,hW2⟩:=zn (wx.setCell ⟨B1,3+q,none⟩ (.int .i64 b));rw[←hW2]at R22 RX2 ex3 HM2 ⊢;obtain ⟨z,hz⟩:=zn (y.set (3+q) b);rw[←hz]at RX2 HR HVO;have HKV:=zhd (xm HVO.out.1);have KEEP:Hid (∀w',Below W2.heap.size W2 w'→(fun w':World=>w'.cell? ⟨g,11,none⟩=some (.map (some mb))∧w'.cell? ⟨B1,0,none⟩=some (.int .i64 (nth z 0))∧w'.cell? ⟨B1,1,none⟩=some (.int .i64 (nth z 1))∧w'.cell? ⟨B1,2,none⟩=some (.int .i64 (nth z 2))∧w'.cell? ⟨B1,3,none⟩=some (.int .i64 (nth z 3))∧w'.cell? ⟨B1,4,none⟩=some (.int .i64 (nth z 4))∧w'.cell? ⟨B1,5,none⟩=some (.int .i64 (nth z 5))∧w'.cell? ⟨B1,6,none⟩=some (.int .i64 (nth z 6))∧w'.cell? ⟨B1,7,none⟩=some (.int .i64 (nth z 7))) w'):=zhd fun w' hw=>⟨(R22.ext hw).zc 11 rfl,(RX2.ext hw).zc 0 rfl,(RX2.ext hw).zc 1 rfl,(RX2.ext hw).zc 2 rfl,(RX2.ext hw).zc 3 rfl,(RX2.ext hw).zc 4 rfl,(RX2.ext hw).zc 5 rfl,(RX2.ext hw).zc 6 rfl,(RX2.ext hw).zc 7 rfl⟩;have HE:=zhd (za ex3 (zb W2.heap.size W2 1));have HMP:=zhd (HM2.out.ext (zb W2.heap.size W2 1));have HIN:Hid (numM s.tab z=if z∈s.tab then some (.int .i64 (idxV s.tab z:Nat)) else none):=zhd rfl;clear hW2 R22 RX2 ex3 hz HM2 HL8 wx;by_cases hin:z∈s.tab
 ·have HNM:=zhd (HIN.out.trans (if_pos hin));have HRR:=zhd (HR.out.trans (if_pos hin));clear hin HIN HR;refine zF (fun w':World=>w'.cell? ⟨g,11,none⟩=some (.map (some mb))∧w'.cell? ⟨B1,0,none⟩=some (.int .i64 (nth z 0))∧w'.cell? ⟨B1,1,none⟩=some (.int .i64 (nth z 1))∧w'.cell? ⟨B1,2,none⟩=some (.int .i64 (nth z 2))∧w'.cell? ⟨B1,3,none⟩=some (.int .i64 (nth z 3))∧w'.cell? ⟨B1,4,none⟩=some (.int .i64 (nth z 4))∧w'.cell? ⟨B1,5,none⟩=some (.int .i64 (nth z 5))∧w'.cell? ⟨B1,6,none⟩=some (.int .i64 (nth z 6))∧w'.cell? ⟨B1,7,none⟩=some (.int .i64 (nth z 7))) (fun i=>false) (by kernel_rfl) ?_ (fun hHeld=>?_)
  ·exact KEEP.out _ (zb W2.heap.size W2 1)
  refine zt 0 hHeld ?_;refine zt 1 hHeld ?_;refine zt 2 hHeld ?_;refine zt 3 hHeld ?_;refine zt 4 hHeld ?_;refine zo 5 (fun K hK=>?_)
  (refine xj rfl _ _ 134 (by rfl) 3 Tryz.underlying134 (.int .i64 0) (ym _) (by rfl) HMP.out z (by rw[HKV.out];rfl) HVO.out ?_;rw[HNM.out])
  refine zk hK (KEEP.out _ (zb W2.heap.size W2 1)) (fun hHeld=>?_);clear hK K;refine zt 6 hHeld ?_;refine zt 7 hHeld ?_;refine zt 8 hHeld ?_;refine zt 9 hHeld ?_;refine zt 10 hHeld ?_;refine zz (by kernel_rfl) ?_ _;go_wp2;go_ret;exact .mk HE.out (zr HRR.out.symm)
 ·have HNM:=zhd (HIN.out.trans (if_neg hin));have HRR:=zhd (HR.out.trans (if_neg hin));clear hin HIN HR;refine zF (fun w':World=>w'.cell? ⟨g,11,none⟩=some (.map (some mb))∧w'.cell? ⟨B1,0,none⟩=some (.int .i64 (nth z 0))∧w'.cell? ⟨B1,1,none⟩=some (.int .i64 (nth z 1))∧w'.cell? ⟨B1,2,none⟩=some (.int .i64 (nth z 2))∧w'.cell? ⟨B1,3,none⟩=some (.int .i64 (nth z 3))∧w'.cell? ⟨B1,4,none⟩=some (.int .i64 (nth z 4))∧w'.cell? ⟨B1,5,none⟩=some (.int .i64 (nth z 5))∧w'.cell? ⟨B1,6,none⟩=some (.int .i64 (nth z 6))∧w'.cell? ⟨B1,7,none⟩=some (.int .i64 (nth z 7))) (fun i=>false) (by kernel_rfl) ?_ (fun hHeld=>?_)
  ·exact KEEP.out _ (zb W2.heap.size W2 1)
  refine zt 0 hHeld ?_;refine zt 1 hHeld ?_;refine zt 2 hHeld ?_;refine zt 3 hHeld ?_;refine zt 4 hHeld ?_;refine zo 5 (fun K hK=>?_)
  (refine xj rfl _ _ 134 (by rfl) 3 Tryz.underlying134 (.int .i64 0) (ym _) (by rfl) HMP.out z (by rw[HKV.out];rfl) HVO.out ?_;rw[HNM.out])
  refine zk hK (KEEP.out _ (zb W2.heap.size W2 1)) (fun hHeld=>?_);clear hK K;refine zt 6 hHeld ?_;refine zt 7 hHeld ?_;refine zt 8 hHeld ?_;refine zt 9 hHeld ?_;refine zt 10 hHeld ?_;refine zz (by kernel_rfl) ?_ _;go_wp2;go_ret;exact .mk HE.out (zr HRR.out.symm)
def likB (T:List (List Int)) (v w:Nat):Bool:=decide (prcT T v=prcT T w)&&decide (rndT T v=rndT T w)
theorem Y2 {A:Nat→Prop} {w:World} {g:Nat} {s:SysF} {ch:List Int} {u x:Nat} (h:ScnV A w g s ch) (hu:u<s.tab.length) (hx:x<s.tab.length):
  Calls Tryz.prog 84 #[.pointer (some ⟨g,0,none⟩),u,x] w (Post w fun _ r=>r=.bool (likB s.tab u x)):=by
 obtain ⟨ca,cc,sa,sc,ta,tc,xa,xc,a2,c2,la,lc,mb,R,_,hM,ht,hr,hL⟩:=h.mem;obtain ⟨hg,hlen,hfew⟩:=h.dat
 obtain ⟨_,_,hee,tad,_⟩:=ht.form2;cases hee;obtain ⟨i0,hi,hz⟩:=zK zO;have HQ:=zhd (zM Tryz.underlying30 hi hz tad);have HTB:=zhd hg.tab;have HR:Hid (likB s.tab u x=(decide (prcT s.tab u=prcT s.tab x)&&decide (rndT s.tab u=rndT s.tab x))):=zhd rfl;obtain ⟨r,hrr⟩:=zn (likB s.tab u x);rw[←hrr]at HR ⊢;have uq:=HQ.out u hu;have xq:=HQ.out x hx;obtain ⟨e0,_⟩:=yO HTB.out hx;obtain ⟨e1,_⟩:=yA HTB.out hx;obtain ⟨f0,_⟩:=yO HTB.out hu;obtain ⟨f1,_⟩:=yA HTB.out hu;have hcu:=ht.nums (k:=u) hu (by decide);have hcx:=ht.nums (k:=x) hx (by decide);obtain ⟨yu,hyu⟩:∃y,y=nthL s.tab u:=⟨_,rfl⟩;obtain ⟨yx,hyx⟩:∃y,y=nthL s.tab x:=⟨_,rfl⟩;rw[←hyu]at hcu f0 f1;rw[←hyx]at hcx e0 e1;obtain ⟨pu,hpu⟩:∃p,p=prcT s.tab u:=⟨_,rfl⟩;obtain ⟨px,hpx⟩:∃p,p=prcT s.tab x:=⟨_,rfl⟩;obtain ⟨ru,hru⟩:=zn (rndT s.tab u);obtain ⟨rx,hrx⟩:=zn (rndT s.tab x);rw[←hpu,←hpx,←hru,←hrx]at HR;rw[←hpu]at f0;rw[←hpx]at e0;rw[←hru]at f1;rw[←hrx]at e1;have HU0:=zhd f0;have HU1:=zhd f1;have HX0:=zhd e0;have HX1:=zhd e1;have KEEP:Hid (∀w',Below w.heap.size w w'→(fun w':World=>w'.cell? ⟨g,0,none⟩=some (.int .i64 s.p.n)∧w'.cell? ⟨g,7,none⟩=some (.int .i64 s.tn)∧w'.cell? ⟨g,8,none⟩=some (.slice ta s.tab.length tc)∧w'.cell? (adr ta (u * 8))=some (.int .i64 (nth yu 0))∧w'.cell? ⟨(adr ta (u * 8)).block,(adr ta (u * 8)).off+1,none⟩=some (.int .i64 (nth yu 1))∧w'.cell? ⟨(adr ta (u * 8)).block,(adr ta (u * 8)).off+2,none⟩=some (.int .i64 (nth yu 2))∧w'.cell? ⟨(adr ta (u * 8)).block,(adr ta (u * 8)).off+3,none⟩=some (.int .i64 (nth yu 3))∧w'.cell? ⟨(adr ta (u * 8)).block,(adr ta (u * 8)).off+4,none⟩=some (.int .i64 (nth yu 4))∧w'.cell? ⟨(adr ta (u * 8)).block,(adr ta (u * 8)).off+5,none⟩=some (.int .i64 (nth yu 5))∧w'.cell? ⟨(adr ta (u * 8)).block,(adr ta (u * 8)).off+6,none⟩=some (.int .i64 (nth yu 6))∧w'.cell? ⟨(adr ta (u * 8)).block,(adr ta (u * 8)).off+7,none⟩=some (.int .i64 (nth yu 7))∧w'.cell? (adr ta (x * 8))=some (.int .i64 (nth yx 0))∧w'.cell? ⟨(adr ta (x * 8)).block,(adr ta (x * 8)).off+1,none⟩=some (.int .i64 (nth yx 1))∧w'.cell? ⟨(adr ta (x * 8)).block,(adr ta (x * 8)).off+2,none⟩=some (.int .i64 (nth yx 2))∧w'.cell? ⟨(adr ta (x * 8)).block,(adr ta (x * 8)).off+3,none⟩=some (.int .i64 (nth yx 3))∧w'.cell? ⟨(adr ta (x * 8)).block,(adr ta (x * 8)).off+4,none⟩=some (.int .i64 (nth yx 4))∧w'.cell? ⟨(adr ta (x * 8)).block,(adr ta (x * 8)).off+5,none⟩=some (.int .i64 (nth yx 5))∧w'.cell? ⟨(adr ta (x * 8)).block,(adr ta (x * 8)).off+6,none⟩=some (.int .i64 (nth yx 6))∧w'.cell? ⟨(adr ta (x * 8)).block,(adr ta (x * 8)).off+7,none⟩=some (.int .i64 (nth yx 7))) w'):=zhd fun w' hw=>⟨(R.ext hw).zc 0 rfl,(R.ext hw).zc 7 rfl,(R.ext hw).zc 8 rfl,zm hcu.1 hw,zm (hcu.2 1 (by decide)) hw,zm (hcu.2 2 (by decide)) hw,zm (hcu.2 3 (by decide)) hw,zm (hcu.2 4 (by decide)) hw,zm (hcu.2 5 (by decide)) hw,zm (hcu.2 6 (by decide)) hw,zm (hcu.2 7 (by decide)) hw,zm hcx.1 hw,zm (hcx.2 1 (by decide)) hw,zm (hcx.2 2 (by decide)) hw,zm (hcx.2 3 (by decide)) hw,zm (hcx.2 4 (by decide)) hw,zm (hcx.2 5 (by decide)) hw,zm (hcx.2 6 (by decide)) hw,zm (hcx.2 7 (by decide)) hw⟩;clear hcu hcx hyu hyx hpu hpx hru hrx f0 f1 e0 e1 hu hx HQ HTB ht hr hL hM R tad hi hz hrr hg hlen hfew h;go_enter Tryz.func84,Tryz.ntmps84;go_upto_region 1 with fail;refine zF (fun w':World=>w'.cell? ⟨g,0,none⟩=some (.int .i64 s.p.n)∧w'.cell? ⟨g,7,none⟩=some (.int .i64 s.tn)∧w'.cell? ⟨g,8,none⟩=some (.slice ta s.tab.length tc)∧w'.cell? (adr ta (u * 8))=some (.int .i64 (nth yu 0))∧w'.cell? ⟨(adr ta (u * 8)).block,(adr ta (u * 8)).off+1,none⟩=some (.int .i64 (nth yu 1))∧w'.cell? ⟨(adr ta (u * 8)).block,(adr ta (u * 8)).off+2,none⟩=some (.int .i64 (nth yu 2))∧w'.cell? ⟨(adr ta (u * 8)).block,(adr ta (u * 8)).off+3,none⟩=some (.int .i64 (nth yu 3))∧w'.cell? ⟨(adr ta (u * 8)).block,(adr ta (u * 8)).off+4,none⟩=some (.int .i64 (nth yu 4))∧w'.cell? ⟨(adr ta (u * 8)).block,(adr ta (u * 8)).off+5,none⟩=some (.int .i64 (nth yu 5))∧w'.cell? ⟨(adr ta (u * 8)).block,(adr ta (u * 8)).off+6,none⟩=some (.int .i64 (nth yu 6))∧w'.cell? ⟨(adr ta (u * 8)).block,(adr ta (u * 8)).off+7,none⟩=some (.int .i64 (nth yu 7))∧w'.cell? (adr ta (x * 8))=some (.int .i64 (nth yx 0))∧w'.cell? ⟨(adr ta (x * 8)).block,(adr ta (x * 8)).off+1,none⟩=some (.int .i64 (nth yx 1))∧w'.cell? ⟨(adr ta (x * 8)).block,(adr ta (x * 8)).off+2,none⟩=some (.int .i64 (nth yx 2))∧w'.cell? ⟨(adr ta (x * 8)).block,(adr ta (x * 8)).off+3,none⟩=some (.int .i64 (nth yx 3))∧w'.cell? ⟨(adr ta (x * 8)).block,(adr ta (x * 8)).off+4,none⟩=some (.int .i64 (nth yx 4))∧w'.cell? ⟨(adr ta (x * 8)).block,(adr ta (x * 8)).off+5,none⟩=some (.int .i64 (nth yx 5))∧w'.cell? ⟨(adr ta (x * 8)).block,(adr ta (x * 8)).off+6,none⟩=some (.int .i64 (nth yx 6))∧w'.cell? ⟨(adr ta (x * 8)).block,(adr ta (x * 8)).off+7,none⟩=some (.int .i64 (nth yx 7))) (fun i=>false) (by kernel_rfl) ?_ (fun hHeld=>?_)
 ·exact KEEP.out _ (zb w.heap.size w 1)
 refine zt 0 hHeld ?_;refine zt 1 hHeld ?_;refine zt 2 hHeld ?_;refine zt 3 hHeld ?_;refine zt 4 hHeld ?_;refine zt 5 hHeld ?_;refine zt 6 hHeld ?_;refine zt 7 hHeld ?_;refine zt 8 hHeld ?_;refine zt 9 hHeld ?_;refine zt 10 hHeld ?_;refine zt 11 hHeld ?_;refine zt 12 hHeld ?_;refine zt 13 hHeld ?_;refine zt 14 hHeld ?_;refine zt 15 hHeld ?_;refine zt 16 hHeld ?_;refine zt 17 hHeld ?_;refine Qq 18 19 rfl rfl (by kernel_rfl) (fun K hK=>?_) (fun K hK=>?_)
 ·go_simp;refine zk hK (KEEP.out _ (zv (ze w (.cells #[.int .i64 0,.int .i64 0,.int .i64 0,.int .i64 0,.int .i64 0,.int .i64 0,.int .i64 0,.int .i64 0] 65)) 1)) (fun hHeld=>?_);clear hK K;refine zo 19 (fun K hK=>?_);go_simp;refine zk hK (KEEP.out _ (zv (zh (ze w (.cells #[.int .i64 0,.int .i64 0,.int .i64 0,.int .i64 0,.int .i64 0,.int .i64 0,.int .i64 0,.int .i64 0] 65)) (.cells #[.int .i64 0,.int .i64 0,.int .i64 0,.int .i64 0,.int .i64 0,.int .i64 0,.int .i64 0,.int .i64 0] 65)) 1)) (fun hHeld=>?_);clear hK K;refine zo 20 (fun K hK=>?_);go_simp;refine zk hK (KEEP.out _ (zv (zh (ze w (.cells #[nth yu 0,nth yu 1,nth yu 2,nth yu 3,nth yu 4,nth yu 5,nth yu 6,nth yu 7] 65)) (.cells #[.int .i64 0,.int .i64 0,.int .i64 0,.int .i64 0,.int .i64 0,.int .i64 0,.int .i64 0,.int .i64 0] 65)) 1)) (fun hHeld=>?_);clear hK K;refine zo 21 (fun K hK=>?_);go_simp;refine zk hK (KEEP.out _ (zv (zh (ze w (.cells #[nth yu 0,nth yu 1,nth yu 2,nth yu 3,nth yu 4,nth yu 5,nth yu 6,nth yu 7] 65)) (.cells #[nth yx 0,nth yx 1,nth yx 2,nth yx 3,nth yx 4,nth yx 5,nth yx 6,nth yx 7] 65)) 1)) (fun hHeld=>?_);clear hK K;refine zz (by kernel_rfl) ?_ _;have Ru0:=(zi w [nth yu 0,nth yu 1,nth yu 2,nth yu 3,nth yu 4,nth yu 5,nth yu 6,nth yu 7] 65).alloc (.cells #[nth yx 0,nth yx 1,nth yx 2,nth yx 3,nth yx 4,nth yx 5,nth yx 6,nth yx 7] 65);have Rx0:=zi (w.alloc (.cells #[nth yu 0,nth yu 1,nth yu 2,nth yu 3,nth yu 4,nth yu 5,nth yu 6,nth yu 7] 65)) [nth yx 0,nth yx 1,nth yx 2,nth yx 3,nth yx 4,nth yx 5,nth yx 6,nth yx 7] 65;rw[World.size_alloc]at Rx0;have e2:=zv (zh (ze w (.cells #[nth yu 0,nth yu 1,nth yu 2,nth yu 3,nth yu 4,nth yu 5,nth yu 6,nth yu 7] 65)) (.cells #[nth yx 0,nth yx 1,nth yx 2,nth yx 3,nth yx 4,nth yx 5,nth yx 6,nth yx 7] 65)) 1;have Rf:=Ru0.ext (zb _ _ 1);have Rg:=Rx0.ext (zb _ _ 1);obtain ⟨W2,hW2⟩:=zn (((w.alloc (.cells #[nth yu 0,nth yu 1,nth yu 2,nth yu 3,nth yu 4,nth yu 5,nth yu 6,nth yu 7] 65)).alloc (.cells #[nth yx 0,nth yx 1,nth yx 2,nth yx 3,nth yx 4,nth yx 5,nth yx 6,nth yx 7] 65)).drewN 1);have hW3:((w.alloc (.cells #[nth yu 0,nth yu 1,nth yu 2,nth yu 3,nth yu 4,nth yu 5,nth yu 6,nth yu 7] 65)).alloc (.cells #[nth yx 0,nth yx 1,nth yx 2,nth yx 3,nth yx 4,nth yx 5,nth yx 6,nth yx 7] 65)).drew=W2:=hW2.symm;rw[←hW2]at e2 Rf Rg;rw[hW3];have u0:=Rf.zc 0 rfl;have u1:=Rf.zc 1 rfl;have x0:=Rg.zc 0 rfl;have x1:=Rg.zc 1 rfl;have lf:=Rf.lt;have lg:=Rg.lt;clear hHeld hW2 hW3 Rf Rg Ru0 Rx0;rw[HU0.out]at u0;rw[HU1.out]at u1;rw[HX0.out]at x0;rw[HX1.out]at x1;have HE:=zhd e2;clear KEEP e2;by_cases hp:pu=px
  case neg=>
   have d1:((pu:Int)==(px:Int))=false:=by rw[beq_eq_false_iff_ne];omega
   have RE:=zhd (HR.out.trans (by rw[decide_eq_false hp,Bool.false_and]));clear hp HR;go_wp2;go_ret;exact .mk HE.out (zE RE.out.symm)
  have d1:((pu:Int)==(px:Int))=true:=by rw[hp];simp
  by_cases hrr:ru=rx
  case neg=>
   have d2:((ru:Int)==(rx:Int))=false:=by rw[beq_eq_false_iff_ne];omega
   have RE:=zhd (HR.out.trans (by rw[decide_eq_false hrr,Bool.and_false]));clear hp hrr HR;go_wp2;go_ret;exact .mk HE.out (zE RE.out.symm)
  have d2:((ru:Int)==(rx:Int))=true:=by rw[hrr];simp
  have RE:=zhd (HR.out.trans (by rw[decide_eq_true hp,decide_eq_true hrr,Bool.and_self]));clear hp hrr HR;go_wp2;go_ret;exact .mk HE.out (zE RE.out.symm)
 ·go_simp;refine zk hK (KEEP.out _ (zv (ze w (.cells #[.int .i64 0,.int .i64 0,.int .i64 0,.int .i64 0,.int .i64 0,.int .i64 0,.int .i64 0,.int .i64 0] 65)) 1)) (fun hHeld=>?_);clear hK K;refine zo 18 (fun K hK=>?_);go_simp;refine zk hK (KEEP.out _ (zv (zh (ze w (.cells #[.int .i64 0,.int .i64 0,.int .i64 0,.int .i64 0,.int .i64 0,.int .i64 0,.int .i64 0,.int .i64 0] 65)) (.cells #[.int .i64 0,.int .i64 0,.int .i64 0,.int .i64 0,.int .i64 0,.int .i64 0,.int .i64 0,.int .i64 0] 65)) 1)) (fun hHeld=>?_);clear hK K;refine zo 20 (fun K hK=>?_);go_simp;refine zk hK (KEEP.out _ (zv (zh (ze w (.cells #[.int .i64 0,.int .i64 0,.int .i64 0,.int .i64 0,.int .i64 0,.int .i64 0,.int .i64 0,.int .i64 0] 65)) (.cells #[nth yu 0,nth yu 1,nth yu 2,nth yu 3,nth yu 4,nth yu 5,nth yu 6,nth yu 7] 65)) 1)) (fun hHeld=>?_);clear hK K;refine zo 21 (fun K hK=>?_);go_simp;refine zk hK (KEEP.out _ (zv (zh (ze w (.cells #[nth yx 0,nth yx 1,nth yx 2,nth yx 3,nth yx 4,nth yx 5,nth yx 6,nth yx 7] 65)) (.cells #[nth yu 0,nth yu 1,nth yu 2,nth yu 3,nth yu 4,nth yu 5,nth yu 6,nth yu 7] 65)) 1)) (fun hHeld=>?_);clear hK K;refine zz (by kernel_rfl) ?_ _;have Rx0:=(zi w [nth yx 0,nth yx 1,nth yx 2,nth yx 3,nth yx 4,nth yx 5,nth yx 6,nth yx 7] 65).alloc (.cells #[nth yu 0,nth yu 1,nth yu 2,nth yu 3,nth yu 4,nth yu 5,nth yu 6,nth yu 7] 65);have Ru0:=zi (w.alloc (.cells #[nth yx 0,nth yx 1,nth yx 2,nth yx 3,nth yx 4,nth yx 5,nth yx 6,nth yx 7] 65)) [nth yu 0,nth yu 1,nth yu 2,nth yu 3,nth yu 4,nth yu 5,nth yu 6,nth yu 7] 65;rw[World.size_alloc]at Ru0;have e2:=zv (zh (ze w (.cells #[nth yx 0,nth yx 1,nth yx 2,nth yx 3,nth yx 4,nth yx 5,nth yx 6,nth yx 7] 65)) (.cells #[nth yu 0,nth yu 1,nth yu 2,nth yu 3,nth yu 4,nth yu 5,nth yu 6,nth yu 7] 65)) 1;have Rf:=Rx0.ext (zb _ _ 1);have Rg:=Ru0.ext (zb _ _ 1);obtain ⟨W2,hW2⟩:=zn (((w.alloc (.cells #[nth yx 0,nth yx 1,nth yx 2,nth yx 3,nth yx 4,nth yx 5,nth yx 6,nth yx 7] 65)).alloc (.cells #[nth yu 0,nth yu 1,nth yu 2,nth yu 3,nth yu 4,nth yu 5,nth yu 6,nth yu 7] 65)).drewN 1);have hW3:((w.alloc (.cells #[nth yx 0,nth yx 1,nth yx 2,nth yx 3,nth yx 4,nth yx 5,nth yx 6,nth yx 7] 65)).alloc (.cells #[nth yu 0,nth yu 1,nth yu 2,nth yu 3,nth yu 4,nth yu 5,nth yu 6,nth yu 7] 65)).drew=W2:=hW2.symm;rw[←hW2]at e2 Rf Rg;rw[hW3];have x0:=Rf.zc 0 rfl;have x1:=Rf.zc 1 rfl;have u0:=Rg.zc 0 rfl;have u1:=Rg.zc 1 rfl;have lf:=Rf.lt;have lg:=Rg.lt;clear hHeld hW2 hW3 Rf Rg Rx0 Ru0;rw[HU0.out]at u0;rw[HU1.out]at u1;rw[HX0.out]at x0;rw[HX1.out]at x1;have HE:=zhd e2;clear KEEP e2;by_cases hp:pu=px
  case neg=>
   have d1:((pu:Int)==(px:Int))=false:=by rw[beq_eq_false_iff_ne];omega
   have RE:=zhd (HR.out.trans (by rw[decide_eq_false hp,Bool.false_and]));clear hp HR;go_wp2;go_ret;exact .mk HE.out (zE RE.out.symm)
  have d1:((pu:Int)==(px:Int))=true:=by rw[hp];simp
  by_cases hrr:ru=rx
  case neg=>
   have d2:((ru:Int)==(rx:Int))=false:=by rw[beq_eq_false_iff_ne];omega
   have RE:=zhd (HR.out.trans (by rw[decide_eq_false hrr,Bool.and_false]));clear hp hrr HR;go_wp2;go_ret;exact .mk HE.out (zE RE.out.symm)
  have d2:((ru:Int)==(rx:Int))=true:=by rw[hrr];simp
  have RE:=zhd (HR.out.trans (by rw[decide_eq_true hp,decide_eq_true hrr,Bool.and_self]));clear hp hrr HR;go_wp2;go_ret;exact .mk HE.out (zE RE.out.symm)
end Go.Proofs.YtiabbjolepnjkaaGreat
