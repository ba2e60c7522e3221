/- Part of the proof that the laws answer true for every input. -/
import Derived.Test.YtiabbjolepnjkaaGreatPDfC01
import Derived.Test.YtiabbjolepnjkaaGreatPDfG00
set_option linter.unusedSimpArgs false
set_option linter.unnecessarySimpa false
set_option linter.unusedVariables false
set_option maxRecDepth 100000
set_option maxHeartbeats 40000000
namespace Go.Proofs.YtiabbjolepnjkaaGreat
theorem Y6 {s:SysF} (hg:GoodS s s.N s.K) {ch cl:List Int} (hf:FitP s.tab ch cl) {v w:Nat} (hv:v<s.tab.length) (hw:w<s.tab.length) (hc:nth cl v=nth cl w):nth (quoL s ch) v=nth (quoL s ch) w:=by
 by_cases e:v=w
 ·rw[e]
 ·obtain ⟨⟨hp,hr,_⟩,_⟩:=hf v w hv hw e hc;rw[Xv hg hv hw];cases hs:samB s.tab ch (quoE s.tab ch s.K) v w with
  | true=>rfl
  | false=>
   have hk:=Zd hg.tab hv;obtain ⟨j,_,hd⟩:=zgc hg.tab hg.nodup (s.K - rndT s.tab v) v w hv hw hp hr (by omega) hs;rcases hd with hd | hd
   ·rw[ZP hg.tab hg.nodup hf j v w hv hw hc]at hd;cases hd
   ·rw[ZP hg.tab hg.nodup hf j w v hw hv hc.symm]at hd;cases hd
theorem zeD {T:List (List Int)} {ch no cl:List Int} (hno:∀v,v<T.length→nth no v= -1) (h:FitP T ch cl):FitP T no cl:=fun v w hv hw hne hc=>by
 obtain ⟨⟨a,b,_⟩,d⟩:=h v w hv hw hne hc;exact ⟨⟨a,b,by rw[hno v hv,hno w hw]⟩,d⟩
theorem zcS {s:SysF} (hg:GoodS s s.N s.K) {ch no:List Int} (hno:∀v,v<s.tab.length→nth no v= -1) {v w:Nat} (hv:v<s.tab.length) (hw:w<s.tab.length) (hc:nth (quoL s ch) v=nth (quoL s ch) w):nth (quoL s no) v=nth (quoL s no) w:=
 Y6 hg (zeD hno (xY hg ch)) hv hw hc
theorem zhk {s:SysF} (hg:GoodS s s.N s.K) {no:List Int} (hno:∀v,v<s.tab.length→nth no v= -1) {v w:Nat} (hv:v<s.tab.length) (hw:w<s.tab.length) (hp:prcT s.tab v=prcT s.tab w) (hrv:rndT s.tab v=s.K) (hrw:rndT s.tab w=s.K):nth (quoL s no) v=nth (quoL s no) w:=by
 rw[Xv hg hv hw];have hfo:∀a b,rndT s.tab a=s.K→a<s.tab.length→folB s.tab (quoE s.tab no s.K) a b=true:=fun a b hk ha=>yH.2 fun u hu h1=>by
  have:=YL hg.tab hu ha h1;have:=Zd hg.tab hu;omega
 exact yn.2 ⟨hp,by omega,by rw[hno v hv,hno w hw],hfo v w hrv hv,hfo w v hrw hw⟩
end Go.Proofs.YtiabbjolepnjkaaGreat
