/- Part of the proof that the laws answer true for every input. -/
import Derived.Test.YtiabbjolepnjkaaGreatPMaC01
set_option linter.unusedSimpArgs false
set_option linter.unnecessarySimpa false
set_option linter.unusedVariables false
set_option maxRecDepth 100000
set_option maxHeartbeats 40000000
namespace Go.Proofs.YtiabbjolepnjkaaGreat
section
variable {N K:Nat} {T:List (List Int)} {cl:List Int} {m r f t:Nat}
theorem zgr (hT:TabOK N K T) (hn:T.Nodup) (hu:Used T cl m) {c k:Nat} (hc:c<m) (hk:k<c) (sc:sndB T cl r f c=true) (h0:0≤symV T cl r f t k) (he:eqC T cl t c k=true):symV T cl r f t c=symV T cl r f t k:=
 (zgO hT hn hu hc (by omega) sc ((qg hT hn hu (by omega)).2.2.1 h0)).2 he
theorem zgu (hT:TabOK N K T) (hn:T.Nodup) (hu:Used T cl m) {c:Nat} (hc:c<m) (sc:sndB T cl r f c=true) (h:∀k,k<c→0≤symV T cl r f t k→eqC T cl t c k=false):symV T cl r f t c=(manyN T cl r f t c:Int)∧manyN T cl r f t (c+1)=manyN T cl r f t c+1:=by
 rcases qX (t:=t) hT hn hu hc sc with ⟨h1,h2,h3⟩ | ⟨h1,h2,h3,h4⟩
 ·obtain ⟨a1,a2,a3⟩:=QV hT hn hu (by omega) h1;have h5:=(zez hT hn hu hc sc h1).2 rfl;have h6:=h _ a1 ((qg hT hn hu (by omega)).2.2.2 a2);rw[Zj h5]at h6;cases h6
 ·unfold manyN;rw[h3,h4];simp
theorem zfo (hT:TabOK N K T) (hn:T.Nodup) (hu:Used T cl m) {c k:Nat} (hc:c<m) (hk:k<c) (sc:sndB T cl r f c=true) (h0:0≤symV T cl r f t k) (he:eqC T cl t c k=true):manyN T cl r f t (c+1)=manyN T cl r f t c:=by
 have sk:=(qg (t:=t) hT hn hu (show k<m by omega)).2.2.1 h0;have hkk:=(YB hT hn hu hc (by omega) sc sk).2 he;rcases qX (t:=t) hT hn hu hc sc with ⟨h1,h2,h3⟩ | ⟨h1,h2,h3,h4⟩
 ·unfold manyN;rw[h2]
 ·have:=(xu (t:=t) hn sk).1;omega
theorem zd5 (hT:TabOK N K T) (hn:T.Nodup) (hu:Used T cl m) {c:Nat} (hc:c<m):(manyN T cl r f t (c+1):Int)=max (manyN T cl r f t c:Int) (symV T cl r f t c+1):=by
 cases sc:sndB T cl r f c with
 | false=>
  rw[ZF sc,(Zy (t:=t) sc).2];omega
 | true=>
  rcases qX (t:=t) hT hn hu hc sc with ⟨h1,h2,h3⟩ | ⟨h1,h2,h3,h4⟩
  ·have hl:=List.idxOf_lt_length_of_mem h1;unfold manyN;rw[h2,h3];omega
  ·unfold manyN;rw[h3,h4];simp;omega
end
theorem zgS {n b:Nat} (h:n≤2 ^ b) (h':∀c,c<b→2 ^ c<n):b=widN n:=by
 obtain ⟨h1,h2⟩:=zbU n;rcases Nat.lt_trichotomy b (widN n) with hl | hl | hl
 ·have:=h2 b hl;omega
 ·exact hl
 ·have:=h' _ hl;omega
end Go.Proofs.YtiabbjolepnjkaaGreat
