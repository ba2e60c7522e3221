/- Part of the proof that the laws answer true for every input. -/
import Derived.Test.YtiabbjolepnjkaaGreatPDfB11
import Derived.Test.YtiabbjolepnjkaaGreatPDfE05
set_option linter.unusedSimpArgs false
set_option linter.unnecessarySimpa false
set_option linter.unusedVariables false
set_option maxRecDepth 100000
set_option maxHeartbeats 40000000
namespace Go.Proofs.YtiabbjolepnjkaaGreat
theorem zhR {s:SysF} {N K:Nat} (hg:GoodS s N K) {k q:Nat} (hk:k≤K) (hq:q<N):∃u,u<s.tab.length∧prcT s.tab u=q∧rndT s.tab u=k:=by
 have h1:=hg.pok.c1.1;have h2:=zc7 hg.pok.mv s.p.rounds.toNat 0 (by have:=hg.pok.s1.1;omega);have h3:0<s.ex.length:=by
  rw[hg.num];exact Nat.mul_pos (by omega) h2
 obtain ⟨c,hx⟩:=hg.ex 0 h3;obtain ⟨u,hu,_,he⟩:=hx.at' k hk q hq;obtain ⟨e0,e1,_⟩:=Qr N (nthC s.p.cs c).inn (nthX s.ex 0).word (nthX s.ex 0).vs k q;refine ⟨u,hu,?_,?_⟩
 ·unfold prcT;rw[he,e0];exact Int.toNat_natCast q
 ·unfold rndT;rw[he,e1];exact Int.toNat_natCast k
theorem zfz {s:SysF} (hg:GoodS s s.N s.K) {cl:List Int} (hgd:Good cl) (hl:cl.length=s.tab.length) {ch:List Int} (hf:FitP s.tab ch cl) {k q:Nat} (hk:k≤s.K) (hq:q<s.N):∃c,c<mN cl∧sndB s.tab cl k q c=true:=by
 obtain ⟨u,hu,hp,hr⟩:=zhR hg hk hq;obtain ⟨c,hc,he⟩:=zfu hgd (v:=u) (by omega);refine ⟨c,hc,yZ.2 ?_⟩;obtain ⟨a,b,_⟩:=zaT (cl:=cl) (c:=c) (v:=u) (by omega) he;by_cases e:fclN cl c=u
 ·rw[e];exact ⟨hp,hr⟩
 ·obtain ⟨⟨x,y,_⟩,_⟩:=hf (fclN cl c) u (by omega) hu e (by rw[b,he]);exact ⟨x.trans hp,y.trans hr⟩
theorem zjb {s:SysF} (hg:GoodS s s.N s.K) {cl:List Int} (hme:mesE s cl=0) (hgd:Good cl) (hl:cl.length=s.tab.length) {ch:List Int} (hf:FitP s.tab ch cl) {k p q:Nat} (hk:k<s.K) (hp:p<s.N) (hq:q<s.N):
  (p=q→plcE s cl k p q=11∧cntP s cl k p q=0)∧(p≠q→plcE s cl k p q=0∧cntP s cl k p q=manyN s.tab cl k p q (mN cl)∧1≤manyN s.tab cl k p q (mN cl)):=by
 have h1:=hg.rnd;have h2:=hg.tn;have e:plcE s cl k p q=if (p:Int)=q then 11 else 0:=by
  unfold plcE;rw[if_pos hme,if_neg (by omega),if_neg (by omega)]
 constructor
 ·intro hpq;rw[if_pos (by omega)]at e;exact ⟨e,by unfold cntP;rw[e];rfl⟩
 ·intro hpq;rw[if_neg (by omega)]at e;obtain ⟨c,hc,sc⟩:=zfz hg hgd hl hf (Nat.le_of_lt hk) hp;obtain ⟨_,b,d⟩:=yE (r:=k) (f:=p) (t:=q) hg.tab hg.nodup (yl hgd hl) hc;have:=d.2 sc;exact ⟨e,by unfold cntP;rw[if_pos e];simp only[Int.toNat_natCast],by omega⟩
end Go.Proofs.YtiabbjolepnjkaaGreat
