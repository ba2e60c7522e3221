/- Part of the proof that the laws answer true for every input. -/
import Derived.Test.YtfjlhjkjjbiliaaGreatPXa32
import Derived.Test.YtfjlhjkjjbiliaaGreatPXa19
import Derived.Test.YtfjlhjkjjbiliaaGreatPXa11
import Derived.Test.YtfjlhjkjjbiliaaGreatPXa06
import Derived.Test.YtfjlhjkjjbiliaaGreatPXa14
set_option linter.unusedSimpArgs false
set_option linter.unnecessarySimpa false
set_option linter.unusedVariables false
set_option maxRecDepth 100000
set_option maxHeartbeats 40000000
namespace Go.Proofs.YtfjlhjkjjbiliaaGreat
open Go.RowKit Go.Shelf
attribute [local go_sem ↓] Go.wp_at_zero Go.wp_at_succ
theorem Xr (w:World) (n:Nat):w.grownBy (w.drewN n) none:=⟨rfl,rfl,rfl,Nat.le_refl _,fun _ _ _=>rfl⟩
theorem QW.grown {w w':World} (h:QW w w'):w.grownBy w' none:=by obtain ⟨n,rfl⟩:=h;exact Xr w n
theorem zfr {β:Type} {B:Nat} {J:β→World→Prop} (hJ:AbidesFrom B J) {s:β} {W W':World} (h:J s W) (hq:QW W W'):J s W':=hJ s W W' none h hq.grown (fun r e=>by cases e)
structure TimV (w:World) (S S2:Nat→Prop) (xa:Option Addr) (xc:Nat) (xs:List ExecD) (e N K:Nat) (a2:Option Addr) (c2:Nat) (ch:List Int):Prop where
 ex:Sl kExec S w (.slice xa xs.length xc) xs
 lt:e<xs.length
 len:(nthX xs e).vs.length=K+1
 rows:∀k,k≤K→(nthL (nthX xs e).vs k).length=N
 vw:∀k,k≤K→∀q,q<N→∃z:Nat,z<ch.length∧nth (nthL (nthX xs e).vs k) q=z
 rule:Ints S2 w (.slice a2 ch.length c2) ch
 N5:N≤5
 K6:K≤6
end Go.Proofs.YtfjlhjkjjbiliaaGreat
namespace Go.Proofs.YtfjlhjkjjbiliaaGreat
open Go.RowKit Go.Shelf
attribute [local go_sem ↓] Go.wp_at_zero Go.wp_at_succ
attribute [local go_sem] Oper.semAt_some
theorem TimV.ext {w w':World} {S S2:Nat→Prop} {xa:Option Addr} {xc:Nat} {xs:List ExecD} {e N K:Nat} {a2:Option Addr} {c2:Nat} {ch:List Int} (h:TimV w S S2 xa xc xs e N K a2 c2 ch) (hw:Below w.heap.size w w'):TimV w' S S2 xa xc xs e N K a2 c2 ch:=
 ⟨h.ex.ext hw,h.lt,h.len,h.rows,h.vw,h.rule.ext hw,h.N5,h.K6⟩
end Go.Proofs.YtfjlhjkjjbiliaaGreat
