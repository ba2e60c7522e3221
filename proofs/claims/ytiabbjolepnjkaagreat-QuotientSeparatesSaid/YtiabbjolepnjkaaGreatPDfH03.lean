/- Part of the proof that the laws answer true for every input. -/
import Derived.Test.YtiabbjolepnjkaaGreatPDfC11
import Derived.Test.YtiabbjolepnjkaaGreatPDfH02
set_option linter.unusedSimpArgs false
set_option linter.unnecessarySimpa false
set_option linter.unusedVariables false
set_option maxRecDepth 100000
set_option maxHeartbeats 40000000
namespace Go.Proofs.YtiabbjolepnjkaaGreat
theorem tmodQ (a b:Nat):Int.tmod (a:Int) (b:Int)=((a % b:Nat):Int):=rfl
theorem wrapB (a:Nat) (h:a<256):IntKind.i64.wrap (a:Int)=a:=by simp[IntKind.wrap,IntKind.bits,IntKind.signed];omega
theorem zbd (s:SysF) (ch:List Int) {x y:Nat} (h0:ruleE s ch=0) (hx:x<s.tab.length) (hy:y<s.tab.length):pairE s ch x y=if prcT s.tab x=prcT s.tab y∧rndT s.tab x=rndT s.tab y then 0 else 22:=by
 unfold pairE;rw[if_pos h0,if_neg (by omega),Int.toNat_natCast,Int.toNat_natCast]
theorem zjd {s:SysF} (hg:GoodS s s.N s.K) {ch:List Int} {x y:Nat} (hx:x<s.tab.length) (hy:y<s.tab.length) (h:¬(prcT s.tab x=prcT s.tab y∧rndT s.tab x=rndT s.tab y)):nth (quoL s ch) x≠nth (quoL s ch) y:=fun e=>by
 have:=yn.1 ((Xv hg hx hy).1 e);exact h ⟨this.1,this.2.1⟩
def dLs (s:SysF) (ch:List Int) (x y:Nat):List Int:=disL s.tab ch s.K (min x y) (max x y)
theorem zd7 (s:SysF) (ch:List Int) (x y:Nat):dLs s ch x y=dLs s ch y x:=by unfold dLs;rw[Nat.min_comm,Nat.max_comm]
theorem zcT {s:SysF} (hg:GoodS s s.N s.K) {ch:List Int} {x y:Nat} (hx:x<s.tab.length) (hy:y<s.tab.length) (hp:prcT s.tab x=prcT s.tab y) (hr:rndT s.tab x=rndT s.tab y):dLs s ch x y=[]↔nth (quoL s ch) x=nth (quoL s ch) y:=by
 unfold dLs;rcases Nat.le_total x y with h | h
 ·rw[Nat.min_eq_left h,Nat.max_eq_right h];exact zaj hg hx hy hp hr
 ·rw[Nat.min_eq_right h,Nat.max_eq_left h,zaj hg hy hx hp.symm hr.symm];exact eq_comm
theorem zbw {s:SysF} (hg:GoodS s s.N s.K) {ch:List Int} {x y:Nat} (h0:ruleE s ch=0) (hx:x<s.tab.length) (hy:y<s.tab.length) (hp:prcT s.tab x=prcT s.tab y) (hr:rndT s.tab x=rndT s.tab y) {w':World} {r:Value} (h:DisR s ch x y w' r):
  ∃a c,r=.tuple #[.slice a (dLs s ch x y).length c,.bool (!decide (nth (quoL s ch) x=nth (quoL s ch) y)),.int .i64 0]∧Ints TT w' (.slice a (dLs s ch x y).length c) (dLs s ch x y):=by
 have hp0:pairE s ch x y=0:=by rw[zbd s ch h0 hx hy,if_pos ⟨hp,hr⟩]
 have hn:=zcT hg (ch:=ch) hx hy hp hr;rcases h with ⟨_,u,rfl,hu⟩ | ⟨h,_⟩
 ·rw[Int.toNat_natCast,Int.toNat_natCast]at hu ⊢;have e1:(if (x:Int)=y then [] else disL s.tab ch s.K (min x y) (max x y))=dLs s ch x y:=by
   by_cases e:x=y
   ·subst e;rw[if_pos rfl];exact (hn.2 rfl).symm
   ·rw[if_neg (by omega)];rfl
  have e2:decide ((x:Int)≠y∧disL s.tab ch s.K (min x y) (max x y)≠[])= !decide (nth (quoL s ch) x=nth (quoL s ch) y):=by
   by_cases e:nth (quoL s ch) x=nth (quoL s ch) y
   ·rw[decide_eq_true e];exact decide_eq_false fun h=>h.2 (hn.2 e)
   ·rw[decide_eq_false e];exact decide_eq_true ⟨fun h=>e (by rw[show x=y by omega]),fun h=>e (hn.1 h)⟩
  rw[e1]at hu;rw[e2];obtain ⟨a,c,rfl,_⟩:=hu.form;exact ⟨a,c,rfl,hu⟩
 ·exact absurd hp0 h
theorem ziT {s:SysF} {ch:List Int} {x y:Nat} (h0:ruleE s ch=0) (hx:x<s.tab.length) (hy:y<s.tab.length) (hm:¬(prcT s.tab x=prcT s.tab y∧rndT s.tab x=rndT s.tab y)) {w':World} {r:Value} (h:DisR s ch x y w' r):r=.tuple #[.slice none 0 0,.bool false,.int .i64 22]:=by
 have hp0:pairE s ch x y=22:=by rw[zbd s ch h0 hx hy,if_neg hm]
 rcases h with ⟨h,_⟩ | ⟨_,h⟩
 ·rw[hp0]at h;cases h
 ·rw[hp0]at h;exact h
theorem zbK {s:SysF} (hg:GoodS s s.N s.K) {ch:List Int} {x y:Nat} (h0:ruleE s ch=0) (hx:x<s.tab.length) (hy:y<s.tab.length) (hp:prcT s.tab x=prcT s.tab y) (hr:rndT s.tab x=rndT s.tab y) (hc:nth (quoL s ch) x≠nth (quoL s ch) y):aprE s ch x y (dLs s ch x y)=0:=by
 have hp0:pairE s ch x y=0:=by rw[zbd s ch h0 hx hy,if_pos ⟨hp,hr⟩]
 have hxy:x≠y:=fun e=>hc (by rw[e]);have hn:dLs s ch x y≠[]:=fun h=>hc ((zcT hg hx hy hp hr).1 h);obtain ⟨d1,d2,d3,d4⟩:=zkg (T:=s.tab) (ch:=ch) (K:=s.K) hxy hx hy hn;have d1':aprB s.tab ch x y (dLs s ch x y)=true:=d1;have d2':(dLs s ch x y).length≤s.K+1:=d2;have d3':0<(dLs s ch x y).length:=d3;have hK:=hg.K6;have hz:firstE (inE s.tab.length (dLs s ch x y)) (dLs s ch x y).length=0:=yJ.2 fun k hk=>by
  obtain ⟨z,e,hz⟩:=d4 _ (xN (l:=dLs s ch x y) hk);unfold inE;have e':nth (dLs s ch x y) k=(z:Int):=e;rw[e',if_neg (by omega)]
 rw[zgY,if_pos hp0,if_neg (by omega),if_neg (by omega),if_pos hz,Int.toNat_natCast,Int.toNat_natCast,if_pos d1']
end Go.Proofs.YtiabbjolepnjkaaGreat
