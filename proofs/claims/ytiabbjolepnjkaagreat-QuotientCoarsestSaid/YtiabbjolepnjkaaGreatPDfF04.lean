/- Part of the proof that the laws answer true for every input. -/
import Derived.Test.YtiabbjolepnjkaaGreatPDfC03
import Derived.Test.YtiabbjolepnjkaaGreatPDfF02
set_option linter.unusedSimpArgs false
set_option linter.unnecessarySimpa false
set_option linter.unusedVariables false
set_option maxRecDepth 100000
set_option maxHeartbeats 40000000
namespace Go.Proofs.YtiabbjolepnjkaaGreat
theorem Y6 {s:SysF} (hg:GoodS s s.N s.K) {ch cl:List Int} (hf:FitP s.tab ch cl) {v w:Nat} (hv:v<s.tab.length) (hw:w<s.tab.length) (hc:nth cl v=nth cl w):nth (quoL s ch) v=nth (quoL s ch) w:=by
 by_cases e:v=w
 ·rw[e]
 ·obtain ⟨⟨hp,hr,_⟩,_⟩:=hf v w hv hw e hc;rw[Xv hg hv hw];cases hs:samB s.tab ch (quoE s.tab ch s.K) v w with
  | true=>rfl
  | false=>
   have hk:=Zd hg.tab hv;obtain ⟨j,_,hd⟩:=zgc hg.tab hg.nodup (s.K - rndT s.tab v) v w hv hw hp hr (by omega) hs;rcases hd with hd | hd
   ·rw[ZP hg.tab hg.nodup hf j v w hv hw hc]at hd;cases hd
   ·rw[ZP hg.tab hg.nodup hf j w v hw hv hc.symm]at hd;cases hd
theorem zeK {T:List (List Int)} {ch cl:List Int} (h:∀v w,v<T.length→w<T.length→nth cl v=nth cl w→v=w):FitP T ch cl:=fun v w hv hw hne hc=>absurd (h v w hv hw hc) hne
def Used (T:List (List Int)) (cl:List Int) (m:Nat):Prop:=cl.length=T.length∧∀c,c<m→∃v,v<T.length∧nth cl v=(c:Nat)
def quoM (s:SysF) (ch:List Int):Nat:=(firsts (keys (quoE s.tab ch s.K) s.tab.length)).length
theorem zfN (s:SysF) (ch:List Int) {v:Nat} (hv:v<s.tab.length):nth (quoL s ch) v=(lab (keys (quoE s.tab ch s.K) s.tab.length) (quoE s.tab ch s.K v):Int):=by
 simp[quoL,labs,keys,nth,hv]
theorem za3 (s:SysF) (ch:List Int) {v:Nat} (hv:v<s.tab.length):∃c:Nat,c<quoM s ch∧nth (quoL s ch) v=(c:Int):=
 ⟨_,zbJ (List.mem_map.2 ⟨v,List.mem_range.2 hv,rfl⟩),zfN s ch hv⟩
theorem Xj (s:SysF) (ch:List Int):Used s.tab (quoL s ch) (quoM s ch):=by
 refine ⟨zP s ch,fun c hc=>?_⟩;have hm:(firsts (keys (quoE s.tab ch s.K) s.tab.length))[c]'hc∈keys (quoE s.tab ch s.K) s.tab.length:=yc.1 (List.getElem_mem hc);obtain ⟨v,hv,he⟩:=List.mem_map.1 hm;have hv':=List.mem_range.1 hv;refine ⟨v,hv',?_⟩;rw[zfN s ch hv',he];unfold lab;rw[(zbz _).idxOf_getElem c hc]
end Go.Proofs.YtiabbjolepnjkaaGreat
