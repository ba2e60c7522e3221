/- Part of the proof that the laws answer true for every input. -/
import Derived.Test.YtiabbjolepnjkaaGreatPDfC11
import Derived.Test.YtiabbjolepnjkaaGreatPDfG04
set_option linter.unusedSimpArgs false
set_option linter.unnecessarySimpa false
set_option linter.unusedVariables false
set_option maxRecDepth 100000
set_option maxHeartbeats 40000000
namespace Go.Proofs.YtiabbjolepnjkaaGreat
theorem zin {S:Nat→Prop} {w:World} {v:Value} {s:SysF} {ch:List Int} (h:SysV S w v s) (h0:ruleE s ch=0):ruleE s (silL s)=0:=by
 rw[zdL h.moves8];exact (ZY h0).1
theorem zfo {s:SysF}:∀v,v<s.tab.length→nth (silL s) v= -1:=fun v hv=>QU hv
theorem zg2 {s:SysF} (hg:GoodS s s.N s.K) (hm:s.tab.length≤120) (ch:List Int):finerR (quoL s ch) (quoL s (silL s))=(true,0):=by
 have hb:bothS (quoL s ch) (quoL s (silL s))=0:=by
  unfold bothS;rw[if_neg (by rw[yf.2 (xg (by omega))];simp),if_neg (by rw[yf.2 (xg (by omega))];simp),if_neg (by rw[zP,zP];simp)]
 unfold finerR;rw[if_pos hb,ZS];intro i j hi hj h;rw[zP]at hi hj;exact zcS hg zfo hi hj h
def finM (T:List (List Int)) (cl:List Int) (K:Nat):Nat→Int→Option Value
 | 0,_=>none
 | k+1,z=>if rndT T k=K∧z=(prcT T k:Int) then some (.int .i64 (nth cl k)) else finM T cl K k z
theorem zgG (T:List (List Int)) (cl:List Int) (K:Nat):finM T cl K 0=fun _=>none:=rfl
theorem zg1 {T:List (List Int)} {cl:List Int} {K k:Nat} (h:rndT T k≠K):finM T cl K (k+1)=finM T cl K k:=by
 funext z
 rw[show finM T cl K (k+1) z=if rndT T k=K∧z=(prcT T k:Int) then some (.int .i64 (nth cl k)) else finM T cl K k z from rfl,if_neg fun e=>h e.1]
theorem zgv {T:List (List Int)} {cl:List Int} {K k:Nat} (h:rndT T k=K):finM T cl K (k+1)=fun z=>if z=(prcT T k:Int) then some (.int .i64 (nth cl k)) else finM T cl K k z:=by
 funext z
 rw[show finM T cl K (k+1) z=if rndT T k=K∧z=(prcT T k:Int) then some (.int .i64 (nth cl k)) else finM T cl K k z from rfl];by_cases e:z=(prcT T k:Int)
 ·rw[if_pos ⟨h,e⟩,if_pos e]
 ·rw[if_neg fun x=>e x.2,if_neg e]
theorem zcj {T:List (List Int)} {cl:List Int} {K:Nat}:∀{k:Nat} {z:Int} {x:Value},finM T cl K k z=some x→∃v,v<k∧rndT T v=K∧z=(prcT T v:Int)∧x=.int .i64 (nth cl v)
 | 0,z,x,h=>by cases h
 | k+1,z,x,h=>by
  rw[show finM T cl K (k+1) z=if rndT T k=K∧z=(prcT T k:Int) then some (.int .i64 (nth cl k)) else finM T cl K k z from rfl]at h;split at h
  ·rename_i e;exact ⟨k,by omega,e.1,e.2,by injection h with h;exact h.symm⟩
  ·obtain ⟨v,hv,a⟩:=zcj h;exact ⟨v,by omega,a⟩
theorem ziR {s:SysF} (hg:GoodS s s.N s.K) {k:Nat} (hk:k<s.tab.length) (hr:rndT s.tab k=s.K):finM s.tab (quoL s (silL s)) s.K k (prcT s.tab k)=none∨finM s.tab (quoL s (silL s)) s.K k (prcT s.tab k)=some (.int .i64 (nth (quoL s (silL s)) k)):=by
 cases h:finM s.tab (quoL s (silL s)) s.K k (prcT s.tab k) with
 | none=>exact .inl rfl
 | some x=>
  obtain ⟨v,hv,h1,h2,rfl⟩:=zcj h;refine .inr ?_;rw[zhk hg zfo (v:=v) (w:=k) (by omega) hk (by omega) h1 hr]
end Go.Proofs.YtiabbjolepnjkaaGreat
