/- Part of the proof that the laws answer true for every input. -/
import Derived.Test.YtiabbjolepnjkaaGreatPDfA05
set_option linter.unusedSimpArgs false
set_option linter.unnecessarySimpa false
set_option linter.unusedVariables false
set_option maxRecDepth 100000
set_option maxHeartbeats 40000000
namespace Go.Proofs.YtiabbjolepnjkaaGreat
open Go.RowKit
section
variable {e er:TypeId} {base:Nat} {w:World} {v:Value} {vs:List Value} {ll:List (List Int)}
theorem OwnRows.nil (e er:TypeId) (base:Nat) (w:World):OwnRows e er base w (.slice none 0 0) [] []:=
 ⟨World.ownsRow_nil _ _ _ _,fun j hj=>by simp at hj,fun i j hi=>by simp at hi,fun i hi=>by simp at hi⟩
theorem OwnRows.form (h:OwnRows e er base w v vs ll):∃a cap,v=.slice a ll.length cap∧(0<ll.length→∃g,a=some ⟨g,0,none⟩):=by
 rcases h.row.2 with ⟨rfl,hn0⟩ | ⟨g,cap,cur,rfl,_⟩
 ·exact ⟨none,0,by rw[hn0],fun h=>by omega⟩
 ·exact ⟨_,cap,rfl,fun _=>⟨g,rfl⟩⟩
end
end Go.Proofs.YtiabbjolepnjkaaGreat
namespace Go.Proofs.YtiabbjolepnjkaaGreat
def classS (l:List Int) (k:Int):List Int:=((List.range l.length).filter fun i=>nth l i==k).map fun i:Nat=>(i:Int)
theorem zbY {l:List Int} {x:Int} {i:Nat} (h:i<l.length):nth (l++[x]) i=nth l i:=by simp[nth,List.getElem?_append_left h]
theorem zbZ {l:List Int} {x:Int}:nth (l++[x]) l.length=x:=by simp[nth]
theorem QX (l:List Int) (x k:Int):classS (l++[x]) k=if x=k then classS l k++[(l.length:Int)] else classS l k:=by
 unfold classS;have e:(List.range (l++[x]).length).filter (fun i=>nth (l++[x]) i==k)=(List.range l.length).filter (fun i=>nth l i==k)++(if x=k then [l.length] else []):=by
  rw[List.length_append,List.length_singleton,List.range_succ,List.filter_append];congr 1
  ·apply List.filter_congr;intro i hi;rw[zbY (by simpa using hi)]
  ·have:=zbZ (l:=l) (x:=x);by_cases h:x=k
   ·subst h;simp[this]
   ·simp[this,h]
 rw[e,List.map_append];split<;>simp
def classesS (l:List Int):List (List Int):=(List.range (numS l).toNat).map fun k:Nat=>classS l (k:Int)
theorem zT (l:List Int):(classesS l).length=(numS l).toNat:=by simp[classesS]
theorem yz {l:List Int} {k:Nat} (h:k<(numS l).toNat):nthL (classesS l) k=classS l k:=by
 rw[ya (by rw[zT];exact h)];simp[classesS]
theorem zdW {a b:List (List Int)} (h:a.length=b.length) (hh:∀k,k<a.length→nthL a k=nthL b k):a=b:=by
 apply List.ext_getElem h;intro k h1 h2;have:=hh k h1
 rwa [ya h1,ya h2]at this
theorem QF {ll:List (List Int)} {x j:Nat} {y:List Int} (h:j≠x):nthL (ll.set x y) j=nthL ll j:=by simp[nthL,List.getElem?_set_ne (fun e:x=j=>h e.symm)]
theorem Xw {ll:List (List Int)} {x:Nat} {y:List Int} (h:x<ll.length):nthL (ll.set x y) x=y:=by simp[nthL,h]
theorem zca {l:List Int} {x:Int} (h0:0≤x) (h:x<numS l):classesS (l++[x])=(classesS l).set x.toNat (nthL (classesS l) x.toNat++[(l.length:Int)]):=by
 have hn:numS (l++[x])=numS l:=by rw[yX];omega
 apply zdW
 ·simp[hn,zT]
 ·intro k hk;rw[zT,hn]at hk;rw[yz (by rw[hn];exact hk),QX];by_cases e:k=x.toNat
  ·subst e;rw[Xw (by rw[zT];exact hk),if_pos (by omega),yz hk]
  ·rw[QF e,if_neg (by omega),yz hk]
theorem zc0 {l:List Int} {k:Int} (h:numS l≤k):classS l k=[]:=by
 unfold classS;rw[List.map_eq_nil_iff,List.filter_eq_nil_iff];intro i hi;have:∀(l:List Int) (x:Int),x∈l→x<numS l:=by
  intro l;have key:∀(l:List Int) (n x:Int),(x∈l∨x<n)→x<l.foldl (fun n x=>max n (x+1)) n:=by
   intro l;induction l with
   | nil=>intro n x h;simpa using h
   | cons y l ih=>
    intro n x h;refine ih _ x ?_;show _∨x<max n (y+1);rcases h with h | h
    ·rcases List.mem_cons.1 h with rfl | h
     ·right;omega
     ·left;exact h
    ·right;omega
  intro x hx;exact key l 0 x (.inl hx)
 have:=this l (nth l i) (xN (by simpa using hi));simp;omega
theorem zcH {l:List Int} {x:Int} (h:x=numS l):classesS (l++[x])=(classesS l++[[]]).set x.toNat ([]++[(l.length:Int)]):=by
 have h0:=yI l;have hn:(numS (l++[x])).toNat=(numS l).toNat+1:=by rw[yX];omega
 apply zdW
 ·simp[hn,zT]
 ·intro k hk;rw[zT,hn]at hk;rw[yz (by rw[hn];exact hk),QX];by_cases e:k=x.toNat
  ·subst e;rw[Xw (by rw[List.length_append,zT];simp;omega),if_pos (by omega),zc0 (by omega)]
  ·rw[QF e,if_neg (by omega)];have hk':k<(numS l).toNat:=by omega
   have:nthL (classesS l++[[]]) k=nthL (classesS l) k:=by simp[nthL,List.getElem?_append_left (show k<(classesS l).length by rw[zT];exact hk')]
   rw[this,yz hk']
theorem zcW (l:List Int) (hg:∀i,i<l.length→0≤nth l i∧nth l i≤numS (l.take i)):∀k,k≤l.length→numS (l.take k)≤k:=by
 intro k;induction k with
 | zero=>intro _;simp[numS]
 | succ k ih=>
  intro hk;have:=ih (by omega);have:=hg k (by omega);rw[qO (by omega),yX];omega
theorem zdf {l:List Int} (h:l.length≤65536):∀c∈classesS l,∀x∈c,WF x:=by
 intro c hc x hx;obtain ⟨k,_,rfl⟩:=List.mem_map.1 hc;unfold classS at hx;obtain ⟨i,hi,rfl⟩:=List.mem_map.1 hx;have:=(List.mem_filter.1 hi).1;simp at this;exact WF.small (by omega)
end Go.Proofs.YtiabbjolepnjkaaGreat
