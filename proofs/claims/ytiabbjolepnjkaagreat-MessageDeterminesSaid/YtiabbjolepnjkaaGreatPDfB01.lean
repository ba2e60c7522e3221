/- Part of the proof that the laws answer true for every input. -/
import Derived.Test.YtiabbjolepnjkaaGreatPDfA25
import Derived.Test.YtiabbjolepnjkaaGreatPDfB00
set_option linter.unusedSimpArgs false
set_option linter.unnecessarySimpa false
set_option linter.unusedVariables false
set_option maxRecDepth 100000
set_option maxHeartbeats 40000000
namespace Go.Proofs.YtiabbjolepnjkaaGreat
open Go.RowKit
attribute [local go_sem ↓] Go.wp_at_zero Go.wp_at_succ
def FopTo (T:List (List Int)) (lab:Nat→Int) (t v w k:Nat):Prop:=∀u,u<k→prcT T u=t→hrsB T u v=true→0≤repT T u v w∧lab (repT T u v w).toNat=lab u
theorem FopTo.next {T:List (List Int)} {lab:Nat→Int} {t v w k:Nat} (h:FopTo T lab t v w k) (hk:prcT T k=t→hrsB T k v=true→0≤repT T k v w∧lab (repT T k v w).toNat=lab k):FopTo T lab t v w (k+1):=fun u hu hp hh=>by
 by_cases e:u=k
 ·subst e;exact hk hp hh
 ·exact h u (by omega) hp hh
theorem zjz {T:List (List Int)} {lab:Nat→Int} {t v w k:Nat} (hk:k<T.length) (hp:prcT T k=t) (hh:hrsB T k v=true) (h:¬(0≤repT T k v w∧lab (repT T k v w).toNat=lab k)):folP T lab t v w=false:=by
 cases e:folP T lab t v w with
 | false=>rfl
 | true=>exact absurd (qP.1 e k hk hp hh) h
theorem xb {base n:Nat} {w:World} {v:Value} {l:List Int} (hn:l.length=n) (h:w.ownsRow base 3 1 v n (l.map (Value.int .i64))) (hw:∀x∈l,WF x):Ints (fun b=>base≤b) w v l:=by
 subst hn;exact Ints.of_own h hw
def SymR (B:Nat) (s:SysF) (cl:List Int) (r f t:Int) (w':World) (q:Value):Prop:=(plcE s cl r f t=0∧∃u,q=.tuple #[u,.int .i64 0]∧Ints (fun b=>B≤b) w' u (symL s.tab cl r.toNat f.toNat t.toNat (mN cl)))∨(plcE s cl r f t≠0∧q=.tuple #[.slice none 0 0,plcE s cl r f t])
theorem za7 {S:Nat→Prop} {w:World} {v:Value} {s:SysF} {cl:List Int} {r f t:Int} (h:SysV S w v s) (h0:plcE s cl r f t=0):GoodS s s.N s.K∧Good cl∧cl.length=s.tab.length:=by
 obtain ⟨h1,h2,h3,_⟩:=zd5 (ziG h0).1;exact ⟨qG h1 h.moves8,h2,h3⟩
theorem YR {s:SysF} {cl:List Int} {r f t:Int} (h0:plcE s cl r f t=0):r=(r.toNat:Int)∧f=(f.toNat:Int)∧t=(t.toNat:Int):=by
 have:=ziG h0;omega
def cntP (s:SysF) (cl:List Int) (r f t:Int):Int:=if plcE s cl r f t=0 then manyN s.tab cl r.toNat f.toNat t.toNat (mN cl) else 0
theorem zco {n:Nat} (h:n≤60000):widN n≤16:=by
 obtain ⟨_,h1⟩:=zhE n;apply Decidable.byContradiction;intro h2;have:=h1 16 (by omega);have e:(2:Nat) ^ 16=65536:=by decide
 omega
end Go.Proofs.YtiabbjolepnjkaaGreat
namespace Go.Proofs.YtiabbjolepnjkaaGreat
open Go.RowKit
attribute [local go_sem ↓] Go.wp_at_zero Go.wp_at_succ
def sumTo (f:Nat→Nat):Nat→Nat
 | 0=>0
 | n+1=>sumTo f n+f n
def bitW (T:List (List Int)) (cl:List Int) (m k p q:Nat):Nat:=if p=q then 0 else widN (manyN T cl k p q m)
def bitR (T:List (List Int)) (cl:List Int) (m N k p:Nat):Nat:=sumTo (bitW T cl m k p) N
def bitC (T:List (List Int)) (cl:List Int) (m N k:Nat):Nat:=sumTo (bitR T cl m N k) N
def bitS (T:List (List Int)) (cl:List Int) (m N K:Nat):Nat:=sumTo (bitC T cl m N) K
def bitA (s:SysF) (cl:List Int):Int:=if mesE s cl=0 then bitS s.tab cl (mN cl) s.N s.K else 0
section
variable {T:List (List Int)} {cl:List Int} {m N K:Nat}
theorem zjj (hb:∀k p q,manyN T cl k p q m≤60000) (k p q:Nat):bitW T cl m k p q≤16:=by
 unfold bitW;split
 ·omega
 ·exact zco (hb k p q)
end
def sfmE (T:List (List Int)) (cl sy:List Int) (r f c:Nat):Int:=if (decide (0≤nth sy c)=sndB T cl r f c)∧ -1≤nth sy c∧nth sy c≤1048576 then 0 else 2
def enoP (T:List (List Int)) (cl sy:List Int) (t a b:Nat):Prop:=0≤nth sy a→nth sy a=nth sy b→eqC T cl t a b=true
def enoB (T:List (List Int)) (cl sy:List Int) (t:Nat):Bool:=(List.range sy.length).all fun a=>(List.range a).all fun b=> !decide (0≤nth sy a)||(!decide (nth sy a=nth sy b)||eqC T cl t a b)
theorem zgO {T:List (List Int)} {cl sy:List Int} {t:Nat}:enoB T cl sy t=true↔∀a b,a<sy.length→b<a→enoP T cl sy t a b:=by
 unfold enoB enoP;simp only[List.all_eq_true,List.mem_range,Bool.or_eq_true,Bool.not_eq_true',decide_eq_false_iff_not];constructor
 ·intro h a b ha hb h0 he;rcases h a ha b hb with h1 | h1 | h1
  ·exact absurd h0 h1
  ·exact absurd he h1
  ·exact h1
 ·intro h a ha b hb;by_cases h0:0≤nth sy a
  ·by_cases he:nth sy a=nth sy b
   ·exact .inr (.inr (h a b ha hb h0 he))
   ·exact .inr (.inl he)
  ·exact .inl h0
def vsyE (s:SysF) (cl sy:List Int) (r f t:Int):Int:=
 if plcE s cl r f t=0 then (if sy.length=mN cl then (if firstE (sfmE s.tab cl sy r.toNat f.toNat) sy.length=0 then (if enoB s.tab cl sy t.toNat then 0 else 18) else 2) else 3) else plcE s cl r f t
end Go.Proofs.YtiabbjolepnjkaaGreat
namespace Go.Proofs.YtiabbjolepnjkaaGreat
theorem tmodQ (a b:Nat):Int.tmod (a:Int) (b:Int)=((a % b:Nat):Int):=rfl
theorem wrapB (a:Nat) (h:a<256):IntKind.i64.wrap (a:Int)=a:=by simp[IntKind.wrap,IntKind.bits,IntKind.signed];omega
end Go.Proofs.YtiabbjolepnjkaaGreat
namespace Go.Proofs.YtiabbjolepnjkaaGreat
open Go.ChangeShapes Go.WideShapes Go.ChangeAt Go.RowKit
section
variable {H:Type} {enc:TypeId×Value→H} {W:World}
theorem Qw:Tryz.prog.cellsOf 5=1:=by kernel_rfl
theorem ziZ {x:Int} (h:(Lit.int .u8 x).wf=true):0≤x∧x<256:=by
 simp[Lit.wf,IntKind.min,IntKind.max,IntKind.signed,IntKind.bits]at h;omega
theorem Zq {x:Int} (h:(Lit.int .u8 x).wf=true):∃y:Nat,x=y∧y<256:=by
 have:=ziZ h;exact ⟨x.toNat,by omega,by omega⟩
end
end Go.Proofs.YtiabbjolepnjkaaGreat
namespace Go.Proofs.YtiabbjolepnjkaaGreat
open Go.ChangeShapes Go.WideShapes Go.ChangeAt Go.RowKit
section
variable {H:Type} {enc:TypeId×Value→H} {W:World}
theorem getP4 {α:Type} {l:List α} (h:l.length=4):∃a0 a1 a2 a3,l=[a0,a1,a2,a3]:=by
 match l,h with
 | [a0,a1,a2,a3],_=>exact ⟨a0,a1,a2,a3,rfl⟩
theorem zcK:Tryz.prog.cellsOf 94=4:=by kernel_rfl
theorem XS {base:Nat} {v:Value} {d:DataW H} {p:List MemPlace} (hv:Value.okWide Tryz.prog W .any base 94 v)
  (h:DataW.Trod enc Tryz.prog W 0 (fun _=>true) true 94 v d p):∃x0 x1 x2 x3:Nat,v=.agg #[.int .u8 x0,.int .u8 x1,.int .u8 x2,.int .u8 x3]∧x0<256∧x1<256∧x2<256∧x3<256:=by
 obtain ⟨cs,rfl⟩:∃cs,v=.agg cs:=by
  simp only[Value.okWide,Tryz.underlying94]at hv;obtain ⟨cs,h1,_⟩:=hv;exact ⟨cs,h1⟩
 obtain ⟨fuel,hf⟩:=h;obtain ⟨xs,m,rfl,hx,hlen,hxl,hg⟩:=DataW.trod_array Tryz.underlying94 hf;rw[zcK]at hlen;obtain ⟨l⟩:=cs;obtain ⟨c0,c1,c2,c3,hl2⟩:=getP4 hlen;simp only[Value.cells]at hl2;subst hl2;have key:∀k,k<4→∃x:Nat,[c0,c1,c2,c3].getD k undef=.int .u8 x∧x<256:=fun k hk=>by
  have h1:=hg k hk;rw[Qw,Nat.mul_one,List.getElem?_eq_getElem (by omega)]at h1;have:k=0∨k=1∨k=2∨k=3:=by omega
  rcases this with rfl | rfl | rfl | rfl
  ·obtain ⟨z,e0,_,w0⟩:=DataW.trod_int Tryz.underlying5 h1;obtain ⟨y,rfl,hy⟩:=Zq w0;exact ⟨y,(List.cons.inj e0).1,hy⟩
  ·obtain ⟨z,e0,_,w0⟩:=DataW.trod_int Tryz.underlying5 h1;obtain ⟨y,rfl,hy⟩:=Zq w0;exact ⟨y,(List.cons.inj e0).1,hy⟩
  ·obtain ⟨z,e0,_,w0⟩:=DataW.trod_int Tryz.underlying5 h1;obtain ⟨y,rfl,hy⟩:=Zq w0;exact ⟨y,(List.cons.inj e0).1,hy⟩
  ·obtain ⟨z,e0,_,w0⟩:=DataW.trod_int Tryz.underlying5 h1;obtain ⟨y,rfl,hy⟩:=Zq w0;exact ⟨y,(List.cons.inj e0).1,hy⟩
 obtain ⟨x0,e0,w0⟩:=key 0 (by decide);simp only[List.getD_cons_zero,List.getD_cons_succ]at e0;subst e0;obtain ⟨x1,e1,w1⟩:=key 1 (by decide);simp only[List.getD_cons_zero,List.getD_cons_succ]at e1;subst e1;obtain ⟨x2,e2,w2⟩:=key 2 (by decide);simp only[List.getD_cons_zero,List.getD_cons_succ]at e2;subst e2;obtain ⟨x3,e3,w3⟩:=key 3 (by decide);simp only[List.getD_cons_zero,List.getD_cons_succ]at e3;subst e3;exact ⟨x0,x1,x2,x3,rfl,w0,w1,w2,w3⟩
end
end Go.Proofs.YtiabbjolepnjkaaGreat
