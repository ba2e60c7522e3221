/- Part of the proof that the laws answer true for every input. -/
import Derived.Test.YtiabbjolepnjkaaGreatPDfD02
set_option linter.unusedSimpArgs false
set_option linter.unnecessarySimpa false
set_option linter.unusedVariables false
set_option maxRecDepth 100000
set_option maxHeartbeats 40000000
namespace Go.Proofs.YtiabbjolepnjkaaGreat
def quoM (s:SysF) (ch:List Int):Nat:=(firsts (keys (quoE s.tab ch s.K) s.tab.length)).length
theorem zfN (s:SysF) (ch:List Int) {v:Nat} (hv:v<s.tab.length):nth (quoL s ch) v=(lab (keys (quoE s.tab ch s.K) s.tab.length) (quoE s.tab ch s.K v):Int):=by
 simp[quoL,labs,keys,nth,hv]
theorem za3 (s:SysF) (ch:List Int) {v:Nat} (hv:v<s.tab.length):∃c:Nat,c<quoM s ch∧nth (quoL s ch) v=(c:Int):=
 ⟨_,zbJ (List.mem_map.2 ⟨v,List.mem_range.2 hv,rfl⟩),zfN s ch hv⟩
theorem Xj (s:SysF) (ch:List Int):Used s.tab (quoL s ch) (quoM s ch):=by
 refine ⟨zP s ch,fun c hc=>?_⟩;have hm:(firsts (keys (quoE s.tab ch s.K) s.tab.length))[c]'hc∈keys (quoE s.tab ch s.K) s.tab.length:=yc.1 (List.getElem_mem hc);obtain ⟨v,hv,he⟩:=List.mem_map.1 hm;have hv':=List.mem_range.1 hv;refine ⟨v,hv',?_⟩;rw[zfN s ch hv',he];unfold lab;rw[(zbz _).idxOf_getElem c hc]
theorem zit {s:SysF} (hg:GoodS s s.N s.K) (ch:List Int):FitC s.tab ch (quoL s ch) (quoM s ch):=
 ⟨Xj s ch,fun v hv=>za3 s ch hv,fun v w hv hw=>zeh hg hv hw⟩
theorem ziH {s:SysF} (hg:GoodS s s.N s.K) {v:Nat} (hv:v<s.tab.length) (hr:0<rndT s.tab v):nth (nthL s.tab v) 2=0:=by
 obtain ⟨e,he,k,hk,q,hq,h1⟩:=hg.occ v hv;obtain ⟨c,hx⟩:=hg.ex e he;obtain ⟨u,hu,h2,h3⟩:=hx.at' k hk q hq;have:u=v:=by omega
 subst this;cases k with
 | zero=>
  have h4:=(Qr s.N (nthC s.p.cs c).inn (nthX s.ex e).word (nthX s.ex e).vs 0 q).2.1;rw[←h3]at h4;unfold rndT at hr;rw[h4]at hr;exact absurd hr (by decide)
 | succ k=>rw[h3];rfl
theorem zgJ {s:SysF} (hg:GoodS s s.N s.K) (hn:s.tab.Nodup) (ch:List Int) {u v:Nat} (hu:u<s.tab.length) (hv:v<s.tab.length) (hp:prcT s.tab u=prcT s.tab v) (hr:rndT s.tab u=rndT s.tab v) (h0:0<rndT s.tab u)
  (he:∀k,k<s.N→tolV s.tab (quoL s ch) (rndT s.tab u - 1) (prcT s.tab u) u k=tolV s.tab (quoL s ch) (rndT s.tab u - 1) (prcT s.tab u) v k):nth (quoL s ch) u=nth (quoL s ch) v:=
 ze7 hg.tab hn (zit hg ch) hu hv hp hr (by rw[ziH hg hu h0,ziH hg hv (by omega)]) he
end Go.Proofs.YtiabbjolepnjkaaGreat
