/- Part of the proof that the laws answer true for every input. -/
import Derived.Test.YtfjlhjkjjbiliaaGreatPXa29
set_option linter.unusedSimpArgs false
set_option linter.unnecessarySimpa false
set_option linter.unusedVariables false
set_option maxRecDepth 100000
set_option maxHeartbeats 40000000
namespace Go.Proofs.YtfjlhjkjjbiliaaGreat
open Go.RowKit
attribute [local go_sem ↓] Go.wp_at_zero Go.wp_at_succ
theorem Ints.cellN {S:Nat→Prop} {w:World} {a:Option Addr} {c n:Nat} {l:List Int} (h:Ints S w (.slice a n c) l) {k:Nat} (hk:k<l.length):w.cell? (adr a k)=some (.int .i64 (nth l k)):=by
 obtain ⟨_,_,he,_⟩:=h.form
 cases he
 have cc0:=yf h (.refl _ _) k hk
 have hcv:(l.map (Value.int .i64)).getD k undef=.int .i64 (nth l k):=by rw[List.getD_eq_getElem?_getD,List.getElem?_map,get?_nth hk];rfl
 rw[hcv]at cc0
 exact cc0
theorem Ints.idx {S:Nat→Prop} {w:World} {a:Option Addr} {c n:Nat} {l:List Int} (h:Ints S w (.slice a n c) l) {k:Nat} (hk:k<l.length) (W:World):(Instr.indexAt 36 (.slice a n c) (.int .i64 k)).run Tryz.prog W=.ok (.pointer (some (adr a k))) W:=by
 obtain ⟨_,_,he,ad,_⟩:=h.form
 cases he
 obtain ⟨i0,hi,_,hz1,_⟩:=info_parts zD
 exact zz Tryz.underlying36 hi hz1 ad k hk W
def RuleV (S:Nat→Prop) (w:World) (v:Value) (l:List Int):Prop:=∃u,v=.agg #[u]∧Ints S w u l
theorem RuleV.ext {S:Nat→Prop} {w w':World} {v:Value} {l:List Int} (h:RuleV S w v l) (hw:Below w.heap.size w w'):RuleV S w' v l:=by
 obtain ⟨u,rfl,hu⟩:=h
 exact ⟨u,rfl,hu.ext hw⟩
theorem RuleV.mono {S S':Nat→Prop} {w:World} {v:Value} {l:List Int} (h:RuleV S w v l) (hS:∀b,S b→S' b):RuleV S' w v l:=by
 obtain ⟨u,rfl,hu⟩:=h
 exact ⟨u,rfl,hu.mono hS⟩
def SysF.N (s:SysF):Nat:=s.p.n.toNat
def SysF.K (s:SysF):Nat:=s.p.rounds.toNat
theorem QO {s:SysF} (h:verE s=0) (h8:Moves8 s.p.st):GoodS s s.N s.K:=by
 obtain ⟨N,K,hg⟩:=zf0 h h8
 have e1:s.N=N:=by unfold SysF.N;rw[hg.pok.n];exact Int.toNat_natCast N
 have e2:s.K=K:=by unfold SysF.K;rw[hg.rnd];exact Int.toNat_natCast K
 rw[e1,e2];exact hg
end Go.Proofs.YtfjlhjkjjbiliaaGreat
