/- Part of the proof that the laws answer true for every input. -/
import Derived.Test.YtiabbjolepnjkaaGreatPDfF06
set_option linter.unusedSimpArgs false
set_option linter.unnecessarySimpa false
set_option linter.unusedVariables false
set_option maxRecDepth 100000
set_option maxHeartbeats 40000000
namespace Go.Proofs.YtiabbjolepnjkaaGreat
theorem zdZ (s:SysF) (ch:List Int):numS (quoL s ch)=(quoM s ch:Int):=zbq _
theorem zhM {s:SysF} (hg:GoodS s s.N s.K) (ch:List Int):0<quoM s ch:=by
 obtain ⟨c,hc,_⟩:=za3 s ch (YU hg);omega
theorem zg5 {s:SysF} {ch cl:List Int} (h0:ruleE s ch=0) (hg:Good cl) (hl:cl.length=s.tab.length):verQ s ch cl=0↔FitP s.tab ch cl:=by
 unfold verQ chkQ;rw[if_pos h0,if_pos (yf.2 hg),if_pos hl,←Qj];cases fitB s.tab ch cl<;>simp
theorem zi7 {s:SysF} (hg:GoodS s s.N s.K) (hm:s.tab.length≤120) {ch:List Int} (h0:ruleE s ch=0):verQ s ch (quoL s ch)=0:=
 (zg5 h0 (xg (by omega)) (zP s ch)).2 (xY hg ch)
def mrgV (s:SysF) (ch:List Int) (a b v:Nat):Int:=if nth (quoL s ch) v=(max a b:Nat) then ((min a b:Nat):Int) else nth (quoL s ch) v
def mrgL (s:SysF) (ch:List Int) (a b k:Nat):List Int:=keys (mrgV s ch a b) k
def sglL (k:Nat):List Int:=keys (fun v=>(v:Int)) k
theorem xG {f:Nat→Int} {k:Nat}:(keys f k).length=k:=by simp[keys]
theorem QO {f:Nat→Int} {k i:Nat} (h:i<k):nth (keys f k) i=f i:=by simp[keys,nth,h]
theorem qW {f:Nat→Int} (k:Nat):keys f (k+1)=keys f k++[f k]:=by unfold keys;rw[List.range_succ,List.map_append];rfl
theorem zjI (k:Nat):numS (sglL k)=k:=by
 induction k with
 | zero=>rfl
 | succ k ih=>
  unfold sglL at ih ⊢;rw[qW,yX,ih];omega
theorem zej {k:Nat} (hk:k≤65536):Good (sglL k):=by
 refine ⟨by unfold sglL;rw[xG];exact hk,fun i hi=>?_⟩;have hi':i<k:=by simpa[sglL,keys] using hi
 have h1:nth (sglL k) i=(i:Int):=QO hi';have h2:(sglL k).take i=sglL i:=by
  unfold sglL keys;rw[←List.map_take,List.take_range,Nat.min_eq_left (by omega)]
 rw[h1,h2,zjI];omega
theorem zjB (T:List (List Int)) (ch:List Int):FitP T ch (sglL T.length):=zeK fun v w hv hw h=>by
 have h1:nth (sglL T.length) v=(v:Int):=QO hv;have h2:nth (sglL T.length) w=(w:Int):=QO hw;rw[h1,h2]at h;omega
theorem zi3 {s:SysF} (hm:s.tab.length≤120) {ch:List Int} (h0:ruleE s ch=0):verQ s ch (sglL s.tab.length)=0:=
 (zg5 h0 (zej (by omega)) (by unfold sglL;exact xG)).2 (zjB _ _)
theorem zfA {s:SysF} (hm:s.tab.length≤120) (ch:List Int):finerR (sglL s.tab.length) (quoL s ch)=(true,0):=by
 have hl:(sglL s.tab.length).length=s.tab.length:=by unfold sglL;exact xG
 have hb:bothS (sglL s.tab.length) (quoL s ch)=0:=by
  unfold bothS;rw[if_neg (by rw[yf.2 (zej (by omega))];simp),if_neg (by rw[yf.2 (xg (by omega))];simp),if_neg (by rw[hl,zP];simp)]
 unfold finerR;rw[if_pos hb,ZS];intro i j hi hj h;rw[hl]at hi hj;have h1:nth (sglL s.tab.length) i=(i:Int):=QO hi;have h2:nth (sglL s.tab.length) j=(j:Int):=QO hj;rw[h1,h2]at h;have:i=j:=by omega
 rw[this]
theorem zij {T:List (List Int)} {ch cl cl':List Int} (he:∀i j,i<T.length→j<T.length→(nth cl i=nth cl j↔nth cl' i=nth cl' j)) (h:FitP T ch cl):FitP T ch cl':=fun v w hv hw hne hc=>by
 obtain ⟨a,b⟩:=h v w hv hw hne ((he v w hv hw).2 hc);exact ⟨a,by rw[←Yy he];exact b⟩
theorem ziY {s:SysF} (hg:GoodS s s.N s.K) (hm:s.tab.length≤120) {ch:List Int} (h0:ruleE s ch=0) {a b:Nat} (ha:a<quoM s ch) (hb:b<quoM s ch):verQ s ch (labs (mrgL s ch a b s.tab.length))=0↔a=b:=by
 have hlen:(labs (mrgL s ch a b s.tab.length)).length=s.tab.length:=by simp[labs,mrgL,keys]
 have hgd:Good (labs (mrgL s ch a b s.tab.length)):=zbM (by unfold mrgL;rw[xG];omega);have hpat:∀i j,i<s.tab.length→j<s.tab.length→(nth (labs (mrgL s ch a b s.tab.length)) i=nth (labs (mrgL s ch a b s.tab.length)) j↔mrgV s ch a b i=mrgV s ch a b j):=fun i j hi hj=>qQ hi hj;rw[zg5 h0 hgd hlen];constructor
 ·intro h;apply Decidable.byContradiction;intro hne;obtain ⟨v,hv,ev⟩:=(Xj s ch).2 a ha;obtain ⟨w,hw,ew⟩:=(Xj s ch).2 b hb;have hq:mrgV s ch a b v=mrgV s ch a b w:=by
   unfold mrgV;rw[ev,ew];rcases Nat.le_total a b with h1 | h1
   ·rw[Nat.max_eq_right h1,Nat.min_eq_left h1,if_neg (by omega),if_pos rfl]
   ·rw[Nat.max_eq_left h1,Nat.min_eq_right h1,if_pos rfl,if_neg (by omega)]
  have:=Y6 hg h hv hw ((hpat v w hv hw).2 hq);rw[ev,ew]at this;omega
 ·intro e;subst e;refine zij (fun i j hi hj=>?_) (xY hg ch);rw[hpat i j hi hj];have hk:∀v,mrgV s ch a a v=nth (quoL s ch) v:=fun v=>by
   unfold mrgV;rw[Nat.max_self,Nat.min_self];split
   ·rename_i h;exact h.symm
   ·rfl
  rw[hk,hk]
end Go.Proofs.YtiabbjolepnjkaaGreat
