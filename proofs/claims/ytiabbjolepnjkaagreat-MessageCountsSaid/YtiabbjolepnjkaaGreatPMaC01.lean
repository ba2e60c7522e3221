/- Part of the proof that the laws answer true for every input. -/
import Derived.Test.YtiabbjolepnjkaaGreatPMaA23
import Derived.Test.YtiabbjolepnjkaaGreatPMaC00
set_option linter.unusedSimpArgs false
set_option linter.unnecessarySimpa false
set_option linter.unusedVariables false
set_option maxRecDepth 100000
set_option maxHeartbeats 40000000
namespace Go.Proofs.YtiabbjolepnjkaaGreat
theorem zdt (T:List (List Int)) (cl:List Int) (r f t m:Nat):symL T cl r f t (m+1)=symL T cl r f t m++[symV T cl r f t m]:=by unfold symL;rw[List.range_succ,List.map_append];rfl
theorem zeA (T:List (List Int)) (cl:List Int) (r f t:Nat) {m c:Nat} (h:c<m):nth (symL T cl r f t m) c=symV T cl r f t c:=by simp[symL,nth,h]
theorem zgO {N K:Nat} {T:List (List Int)} {cl:List Int} {m r f t:Nat} (hT:TabOK N K T) (hn:T.Nodup) (hu:Used T cl m) {c d:Nat} (hc:c<m) (hd:d<m) (sc:sndB T cl r f c=true) (sd:sndB T cl r f d=true):symV T cl r f t c=symV T cl r f t d↔eqC T cl t c d=true:=by
 rw[←YB hT hn hu hc hd sc sd];unfold symV;rw[if_pos sc,if_pos sd];have hc1:keyC T cl r f t c∈symK T cl r f t (c+1):=yW.2 ⟨c,by omega,sc,rfl⟩;have hd1:keyC T cl r f t d∈symK T cl r f t (d+1):=yW.2 ⟨d,by omega,sd,rfl⟩;obtain ⟨x,hx⟩:=qS T cl r f t (k:=c+1) (m - (c+1));obtain ⟨y,hy⟩:=qS T cl r f t (k:=d+1) (m - (d+1));rw[show c+1+(m - (c+1))=m by omega]at hx;rw[show d+1+(m - (d+1))=m by omega]at hy;have e1:lab (symK T cl r f t (c+1)) (keyC T cl r f t c)=lab (symK T cl r f t m) (keyC T cl r f t c):=by rw[hx];exact (Xh hc1 x).symm
 have e2:lab (symK T cl r f t (d+1)) (keyC T cl r f t d)=lab (symK T cl r f t m) (keyC T cl r f t d):=by rw[hy];exact (Xh hd1 y).symm
 have hcm:keyC T cl r f t c∈symK T cl r f t m:=yW.2 ⟨c,hc,sc,rfl⟩;have hdm:keyC T cl r f t d∈symK T cl r f t m:=yW.2 ⟨d,hd,sd,rfl⟩;rw[e1,e2];constructor
 ·intro h;exact zgE hcm hdm (by omega)
 ·intro h;rw[h]
end Go.Proofs.YtiabbjolepnjkaaGreat
