/- Part of the proof that the laws answer true for every input. -/
import Derived.Test.YtiabbjolepnjkaaGreatPDfF03
set_option linter.unusedSimpArgs false
set_option linter.unnecessarySimpa false
set_option linter.unusedVariables false
set_option maxRecDepth 100000
set_option maxHeartbeats 40000000
namespace Go.Proofs.YtiabbjolepnjkaaGreat
open Go.RowKit
def Under (a b:List Int):Prop:=∀i j,i<a.length→j<a.length→nth a i=nth a j→nth b i=nth b j
open Classical in
noncomputable def underS (a b:List Int):Bool:=decide (Under a b)
noncomputable def finerR (a b:List Int):Bool×Int:=if bothS a b=0 then (underS a b,0) else (false,bothS a b)
theorem ZS {a b:List Int} (h:Under a b):underS a b=true:=by simp[underS,h]
theorem zbo {a b:List Int} {i j:Nat} (hi:i<a.length) (hj:j<a.length) (h:nth a i=nth a j) (hb:nth b i≠nth b j):underS a b=false:=by
 simp only[underS,decide_eq_false_iff_not];exact fun hu=>hb (hu i j hi hj h)
theorem zbb {x y:Bool} {a b:Int} (h:x=y) (h2:a=b):Value.tuple #[.bool x,a]=.tuple #[.bool y,b]:=by rw[h,h2]
theorem QS {S S':Nat→Prop} {w:World} {va vb:Value} {a b:List Int} (ha:Ints S w va a) (hb:Ints S' w vb b):
  Calls Tryz.prog 39 #[va,vb] w (Post w fun _ r=>r=.tuple #[.bool (finerR a b).1,.int .i64 (finerR a b).2]):=by
 have ha0:=ha;have hb0:=hb;obtain ⟨aa,capa,rfl,haa,_,hma,hca,hfa⟩:=ha0;obtain ⟨ab,capb,rfl,hab,_,hmb,hcb,hfb⟩:=hb0;clear hma hmb;obtain ⟨i0,hi,hz0,hz1,hz2⟩:=info_parts info3;have hixa:=zL Tryz.underlying36 hi hz1 haa;have hixb:=zL Tryz.underlying36 hi hz1 hab;have hmm:=@run_makeMap Tryz.prog;go_enter Tryz.func39,Tryz.ntmps39;go_wp2_with fail;refine (zeI ha hb).mono ?_;rintro _ w1 ⟨_,rfl,hb1,rfl⟩;by_cases h1:bothS a b=0
 ·have e1:(bothS a b !=0)=false:=by simp[h1]
  have H1:=zhd h1;obtain ⟨hlen,hmax⟩:=zf8 h1;have HL:=zhd hlen;clear h1 hlen;have hB1:=hb1.size;go_wp2;go_loopw [21] (fun i wr=>∃(k:Nat) (m:Int→Option Value) (c:Nat),k≤a.length∧i=.int .i64 k∧Below w.heap.size w wr∧w1.heap.size<wr.heap.size∧MapV keyInt wr w1.heap.size m c∧c≤k∧(∀j,j<k→m (nth a j)=some (.int .i64 (nth b j)))∧(∀x,(∀j,j<k→nth a j≠x)→m x=none))
   (fun i _=>a.length - (intOf i).toNat)
  case atStart=>exact ⟨0,_,0,by omega,rfl,hb1.alloc hB1 _,by simp,MapV.made keyInt w1,by omega,fun j hj=>by omega,fun x _=>rfl⟩
  case round=>
   obtain ⟨k,m,c,hk,rfl,hbr,hsz,hM,hck,hm1,hm2⟩:=hrel;have HM1:=zhd hm1;have HM2:=zhd hm2;clear hm1 hm2;by_cases hlt:k<a.length
   ·have hltb:k<b.length:=by have:=HL.out;omega
    have qa:=hixa k hlt;have qb:=hixb k hltb;have pa:=Yb haa hbr hca k hlt;have pb:=Yb hab hbr hcb k hltb;have hwf:WF (nth a k):=hfa _ (xN hlt);have hB:=hbr.size;clear hixa hixb hca hcb;have hstep:∀(w2:World),(MapV keyInt w2 w1.heap.size (fun z=>if z=nth a k then some (.int .i64 (nth b k)) else m z) (if (m (nth a k)).isSome then c else c+1))→(∀j,j<k→nth a j=nth a k→nth b j=nth b k)→
      ∃(m':Int→Option Value) (c':Nat),MapV keyInt w2 w1.heap.size m' c'∧c'≤k+1∧(∀j,j<k+1→m' (nth a j)=some (.int .i64 (nth b j)))∧(∀x,(∀j,j<k+1→nth a j≠x)→m' x=none):=by
     intro w2 hm2 hsame;refine ⟨_,_,hm2,by split<;>omega,?_,?_⟩
     ·intro j hj;by_cases e:nth a j=nth a k
      ·simp only[e,if_true];by_cases hjk:j=k
       ·subst hjk;rfl
       ·rw[hsame j (by omega) e]
      ·simp only[if_neg e]
       have hjk:j≠k:=fun h=>e (by rw[h])
       exact HM1.out j (by omega)
     ·intro x hx;have e:x≠nth a k:=fun e=>hx k (by omega) e.symm;simp only[if_neg e];exact HM2.out x (fun j hj=>hx j (by omega))
    have HS:=zhd hstep;clear hstep;by_cases hex:∃j,j<k∧nth a j=nth a k
    ·obtain ⟨j,hj,hje⟩:=hex;have hhit:=zhd (show m (nth a k)=some (.int .i64 (nth b j)) by rw[←hje];exact HM1.out j hj);have HJE:=zhd hje;clear hje;by_cases hbe:nth b j=nth b k
     ·have e2:(nth b j !=nth b k)=false:=by simp[hbe]
      have HBE:=zhd hbe;clear hbe;go_wp2_with (first
       | (at_lookup;refine qn rfl _ _ 91 rfl 3 Tryz.underlying91 (.int .i64 0) (Z7 _) rfl hM (nth a k) rfl hwf (.int .i64 (nth b j)) hhit.out ?_)
       | (at_mapUpdate;refine xe rfl _ _ _ 91 rfl 3 Tryz.underlying91 rfl hM (by unfold maxLen;omega) (nth a k) rfl hwf (.int .i64 (nth b k)) rfl ?_;intro w2 hM2 hg2))
      obtain ⟨m',c',r1,r2,r3,r4⟩:=HS.out w2 hM2 (by
       intro i hi hie;have h1:=HM1.out i hi;rw[hie,hhit.out]at h1;injection h1 with h1;injection h1 with _ h1;rw[←h1];exact HBE.out)
      go_roundw
      case rel=>exact ⟨k+1,m',c',by omega,by go_num,hbr.grown hg2 hB (fun j hj=>by cases hj;exact hB1),Nat.lt_of_lt_of_le hsz hg2.size,r1,r2,r3,r4⟩
      case measure=>simp[intOf];omega
     ·have e2:(nth b j !=nth b k)=true:=by simp[hbe]
      go_wp2_with (at_lookup;refine qn rfl _ _ 91 rfl 3 Tryz.underlying91 (.int .i64 0) (Z7 _) rfl hM (nth a k) rfl hwf (.int .i64 (nth b j)) hhit.out ?_);go_ret2;exact .mk hbr (zbb (by simp[finerR,H1.out,zbo (show j<a.length by omega) hlt HJE.out hbe]) (by simp[finerR,H1.out]))
    ·have hno:∀j,j<k→nth a j≠nth a k:=fun j hj e=>hex ⟨j,hj,e⟩;have hmiss:=zhd (HM2.out _ hno);have HNO:=zhd hno;clear hno hex;go_wp2_with (first
      | (at_lookup;refine qF rfl _ _ 91 rfl 3 Tryz.underlying91 (.int .i64 0) (Z7 _) rfl hM (nth a k) rfl hwf hmiss.out ?_)
      | (at_mapUpdate;refine xe rfl _ _ _ 91 rfl 3 Tryz.underlying91 rfl hM (by unfold maxLen;omega) (nth a k) rfl hwf (.int .i64 (nth b k)) rfl ?_;intro w2 hM2 hg2))
     obtain ⟨m',c',r1,r2,r3,r4⟩:=HS.out w2 hM2 (fun i hi hie=>absurd hie (HNO.out i hi));go_roundw
     case rel=>exact ⟨k+1,m',c',by omega,by go_num,hbr.grown hg2 hB (fun j hj=>by cases hj;exact hB1),Nat.lt_of_lt_of_le hsz hg2.size,r1,r2,r3,r4⟩
     case measure=>simp[intOf];omega
   ·have hk':k=a.length:=by omega
    subst hk';have hU:Under a b:=by
     intro i j hi hj e;have h1:=HM1.out i hi;have h2:=HM1.out j hj;rw[e,h2]at h1;injection h1 with h1;injection h1 with _ h1;exact h1.symm
    have HU:=zhd hU;clear hU;go_wp2;go_ret2;exact .mk hbr (zbb (by simp[finerR,H1.out,ZS HU.out]) (by simp[finerR,H1.out]))
 ·have e1:(bothS a b !=0)=true:=by simp[h1]
  go_wp2_with fail;go_ret2;exact .mk hb1 (zbb (by simp[finerR,h1]) (by simp[finerR,h1]))
end Go.Proofs.YtiabbjolepnjkaaGreat
