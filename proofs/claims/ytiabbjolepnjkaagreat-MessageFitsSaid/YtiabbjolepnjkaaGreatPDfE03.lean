/- Part of the proof that the laws answer true for every input. -/
import Derived.Test.YtiabbjolepnjkaaGreatPDfE01
set_option linter.unusedSimpArgs false
set_option linter.unnecessarySimpa false
set_option linter.unusedVariables false
set_option maxRecDepth 100000
set_option maxHeartbeats 40000000
namespace Go.Proofs.YtiabbjolepnjkaaGreat
section
variable {N K:Nat} {T:List (List Int)} {cl:List Int} {m r f t:Nat}
theorem Qg (hT:TabOK N K T) (hn:T.Nodup) (hu:Used T cl m):∀k,k≤m→∀i,i<manyN T cl r f t k→∃c,c<k∧sndB T cl r f c=true∧symV T cl r f t c=(i:Int)
 | 0,_,i,hi=>absurd hi (by rw[Yc];omega)
 | k+1,hk,i,hi=>by
  rcases YF (r:=r) (f:=f) (t:=t) hT hn hu (show k<m by omega) with h | ⟨h1,h2,h3⟩
  ·rw[h]at hi;obtain ⟨c,a,b⟩:=Qg hT hn hu k (by omega) i hi;exact ⟨c,by omega,b⟩
  ·by_cases e:i<manyN T cl r f t k
   ·obtain ⟨c,a,b⟩:=Qg hT hn hu k (by omega) i e;exact ⟨c,by omega,b⟩
   ·exact ⟨k,by omega,h1,by rw[h3];omega⟩
def sndN (T:List (List Int)) (cl:List Int) (r f k:Nat):Nat:=((List.range k).filter (sndB T cl r f)).length
theorem zcv (k:Nat):sndN T cl r f (k+1)=sndN T cl r f k+if sndB T cl r f k=true then 1 else 0:=by
 unfold sndN;rw[List.range_succ,List.filter_append,List.length_append];cases h:sndB T cl r f k<;>simp[h]
theorem zfU (hT:TabOK N K T) (hn:T.Nodup) (hu:Used T cl m):∀k,k≤m→manyN T cl r f t k≤sndN T cl r f k
 | 0,_=>by rw[Yc];omega
 | k+1,hk=>by
  have ih:=zfU hT hn hu k (by omega);rw[zcv];rcases YF (r:=r) (f:=f) (t:=t) hT hn hu (show k<m by omega) with h | ⟨h1,h2,h3⟩
  ·rw[h];omega
  ·rw[h2,if_pos h1];omega
def merV (T:List (List Int)) (cl:List Int) (r f t n j c:Nat):Int:=if symV T cl r f t c=(n:Int) - 1 then (j:Int) else symV T cl r f t c
theorem ziX (hT:TabOK N K T) (hn:T.Nodup) (hu:Used T cl m) {j:Nat} (hj:j<manyN T cl r f t m):
  (∀a b,a<m→b<a→0≤merV T cl r f t (manyN T cl r f t m) j a→merV T cl r f t (manyN T cl r f t m) j a=merV T cl r f t (manyN T cl r f t m) j b→eqC T cl t a b=true)↔(j:Int)=(manyN T cl r f t m:Int) - 1:=by
 constructor
 ·intro H;apply Decidable.byContradiction;intro hne;obtain ⟨c,hc,sc,vc⟩:=Qg (r:=r) (f:=f) (t:=t) hT hn hu m (Nat.le_refl _) j hj;obtain ⟨d,hd,sd,vd⟩:=Qg (r:=r) (f:=f) (t:=t) hT hn hu m (Nat.le_refl _) (manyN T cl r f t m - 1) (by omega);have mc:merV T cl r f t (manyN T cl r f t m) j c=j:=by unfold merV;rw[if_neg (by rw[vc];exact hne),vc]
  have md:merV T cl r f t (manyN T cl r f t m) j d=j:=by unfold merV;rw[if_pos (by rw[vd];omega)]
  have hcd:c≠d:=fun e=>by subst e;rw[vc]at vd;omega
  rcases Nat.lt_or_gt_of_ne hcd with h | h
  ·have:=(zcd hT hn hu hd hc sd sc).2 (H d c hd h (by rw[md];omega) (by rw[md,mc]));rw[vc,vd]at this;omega
  ·have:=(zcd hT hn hu hc hd sc sd).2 (H c d hc h (by rw[mc];omega) (by rw[md,mc]));rw[vc,vd]at this;omega
 ·intro e a b ha hb h0 hab;have key:∀c,merV T cl r f t (manyN T cl r f t m) j c=symV T cl r f t c:=fun c=>by
   unfold merV;split
   ·rename_i h;rw[h,e]
   ·rfl
  rw[key]at h0 hab;rw[key]at hab;have sa:=(yE (t:=t) hT hn hu ha).2.2.1 h0;have sb:=(yE (r:=r) (f:=f) (t:=t) hT hn hu (show b<m by omega)).2.2.1 (by omega);exact (zcd hT hn hu ha (by omega) sa sb).1 hab
end
end Go.Proofs.YtiabbjolepnjkaaGreat
