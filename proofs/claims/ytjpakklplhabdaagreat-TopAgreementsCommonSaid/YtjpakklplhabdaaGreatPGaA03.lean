/- Part of the proof that the laws answer true for every input. -/
import Derived.Test.YtjpakklplhabdaaGreatPGaA01
set_option linter.unusedSimpArgs false
set_option linter.unnecessarySimpa false
set_option linter.unusedVariables false
set_option maxRecDepth 100000
set_option maxHeartbeats 40000000
namespace Go.Proofs.YtjpakklplhabdaaGreat
def firstE (f:Nat→Int):Nat→Int
 | 0=>0
 | n+1=>if firstE f n=0 then f n else firstE f n
theorem yj {f:Nat→Int}:∀{n:Nat},(∀k,k<n→f k=0)→firstE f n=0
 | 0,_=>rfl
 | n+1,h=>by
  unfold firstE
  rw[if_pos (yj fun k hk=>h k (by omega))]
  exact h n (by omega)
theorem qZ {f:Nat→Int} {k:Nat} (h:∀j,j<k→f j=0) (hk:f k≠0):∀{n:Nat},k<n→firstE f n=f k
 | 0,h0=>by omega
 | n+1,h0=>by
  unfold firstE
  by_cases e:k=n
  ·subst e;rw[if_pos (yj h)]
  ·have:=qZ h hk (n:=n) (by omega)
   rw[this,if_neg hk]
theorem zX {f:Nat→Int} {n:Nat}:firstE f n=0↔∀k,k<n→f k=0:=by
 constructor
 ·induction n with
  | zero=>intro _ k hk;omega
  | succ n ih=>
   intro h k hk
   unfold firstE at h
   split at h
   ·rename_i h0
    by_cases e:k=n
    ·subst e;exact h
    ·exact ih h0 k (by omega)
   ·rename_i h0;exact absurd h h0
 ·exact yj
def Zeros (f:Nat→Int) (k:Nat):Prop:=∀j,j<k→f j=0
theorem Zeros.zero (f:Nat→Int):Zeros f 0:=fun j hj=>by omega
theorem Zeros.next {f:Nat→Int} {k:Nat} (h:Zeros f k) (h0:f k=0):Zeros f (k+1):=fun j hj=>by
 by_cases e:j=k
 ·subst e;exact h0
 ·exact h j (by omega)
theorem Zeros.done {f:Nat→Int} {k n:Nat} (h:Zeros f k) (hk:n≤k):firstE f n=0:=yj fun j hj=>h j (by omega)
theorem Zeros.stop {f:Nat→Int} {k n:Nat} {x:Int} (h:Zeros f k) (hx:f k=x) (h0:x≠0) (hk:k<n):firstE f n=x:=by
 rw[qZ h (by rw[hx];exact h0) hk,hx]
def allN (f:Nat→Bool):Nat→Bool
 | 0=>true
 | n+1=>allN f n&&f n
theorem yG {f:Nat→Bool}:∀{n:Nat},allN f n=true↔∀k,k<n→f k=true
 | 0=>⟨fun _ k hk=>by omega,fun _=>rfl⟩
 | n+1=>by
  unfold allN
  rw[Bool.and_eq_true,yG]
  constructor
  ·rintro ⟨h,h1⟩ k hk
   by_cases e:k=n
   ·subst e;exact h1
   ·exact h k (by omega)
  ·intro h;exact ⟨fun k hk=>h k (by omega),h n (by omega)⟩
def Alls (f:Nat→Bool) (k:Nat):Prop:=∀j,j<k→f j=true
theorem Alls.zero (f:Nat→Bool):Alls f 0:=fun j hj=>by omega
theorem Alls.next {f:Nat→Bool} {k:Nat} (h:Alls f k) (h0:f k=true):Alls f (k+1):=fun j hj=>by
 by_cases e:j=k
 ·subst e;exact h0
 ·exact h j (by omega)
theorem Alls.done {f:Nat→Bool} {k n:Nat} (h:Alls f k) (hk:n≤k):allN f n=true:=yG.2 fun j hj=>h j (by omega)
theorem Zy {f:Nat→Bool} {k n:Nat} (h:f k=false) (hk:k<n):allN f n=false:=by
 cases e:allN f n with
 | false=>rfl
 | true=>rw[yG.1 e k hk]at h;cases h
def cmpI (a b:Int):Int:=if a<b then -1 else if b<a then 1 else 0
def lexN (a b:List Int) (n:Nat):Int:=firstE (fun i=>cmpI (nth a i) (nth b i)) n
def ordL (a b:List Int):Int:=if lexN a b (min a.length b.length)=0 then cmpI (a.length:Int) (b.length:Int) else lexN a b (min a.length b.length)
theorem yN {a b:Int}:cmpI a b=0↔a=b:=by unfold cmpI;constructor<;>intro h<;>(try subst h)<;>(try split at h)<;>(try split at h)<;>(try omega)<;>simp_all
theorem ZG {a b:List Int} {n:Nat}:lexN a b n=0↔∀i,i<n→nth a i=nth b i:=by
 unfold lexN;rw[zX]
 exact ⟨fun h i hi=>yN.1 (h i hi),fun h i hi=>yN.2 (h i hi)⟩
theorem zcm {a b:List Int} (hl:a.length=b.length) (h:∀i,i<a.length→nth a i=nth b i):a=b:=by
 apply List.ext_getElem hl
 intro i h1 h2
 have:=h i h1
 rwa [yq h1,yq h2]at this
theorem ZD {a b:List Int}:ordL a b=0↔a=b:=by
 unfold ordL
 constructor
 ·intro h
  split at h
  ·rename_i h0
   have hl:a.length=b.length:=by have:=yN.1 h;omega
   exact zcm hl fun i hi=>ZG.1 h0 i (by omega)
  ·rename_i h0;exact absurd h h0
 ·intro h;subst h
  have:lexN a a (min a.length a.length)=0:=ZG.2 fun _ _=>rfl
  rw[if_pos this];exact yN.2 rfl
def gAt (n:Int) (p:Nat) (x:Int):Int:=if n≤(p:Int) then (if x=0 then 0 else 3) else if x<0∨((2 ^ n.toNat:Nat):Int) - 1<x then 2 else if x.toNat.testBit p then 0 else 3
def checkG (l:List Int):Int:=if nth l 0<1∨5<nth l 0 then 2 else firstE (fun p=>gAt (nth l 0) p (nth l (p+1))) 5
def checkP (n s:Int):Int:=if n<1∨5<n then 1 else if s<0∨((2 ^ n.toNat:Nat):Int)≤s then 2 else 0
def checkR (l:List Int):Int:=if checkG l=0 then checkP (nth l 0) (nth l 6) else checkG l
abbrev CaseD:=List Int×List (List Int)×List (List Int)
def CaseD.inn (c:CaseD):List Int:=c.1
def CaseD.out (c:CaseD):List (List Int):=c.2.1
def CaseD.calm (c:CaseD):List (List Int):=c.2.2
def nthC (l:List CaseD) (k:Nat):CaseD:=l.getD k ([],[],[])
def vecE (v:List Int) (n most:Int):Int:=if (v.length:Int)=n then (if v.any (fun x=>decide (x<0)||decide (most≤x)) then 2 else 0) else 15
def unord (l:List (List Int)) (k:Nat):Bool:=decide (0<k)&&decide (0≤ordL (nthL l (k - 1)) (nthL l k))
def outE (n outs:Int) (l:List (List Int)) (k:Nat):Int:=if vecE (nthL l k) n outs=0 then (if unord l k then 14 else 0) else vecE (nthL l k) n outs
def calmE (o l:List (List Int)) (k:Nat):Int:=if decide (nthL l k∈o) then (if unord l k then 14 else 0) else 6
def vecsE (n outs:Int) (c:CaseD):Int:=
 if c.out.length<1∨1024<c.out.length then 5 else
  if firstE (outE n outs c.out) c.out.length=0 then firstE (calmE c.out c.calm) c.calm.length else firstE (outE n outs c.out) c.out.length
def caseE (n ins outs:Int) (l:List CaseD) (k:Nat):Int:=
 if vecE (nthC l k).inn n ins=0 then
  (if decide (0<k)&&decide (0≤ordL (nthC l (k - 1)).inn (nthC l k).inn) then 14 else vecsE n outs (nthC l k))
 else vecE (nthC l k).inn n ins
def checkT (n ins outs:Int) (l:List CaseD):Int:=
 if n<1∨5<n∨ins<1∨8<ins∨outs<1∨8<outs then 2 else if l.length<1∨1024<l.length then 5 else firstE (caseE n ins outs l) l.length
abbrev Moves:=List (List (List Int))
def nthM (st:Moves) (s:Nat):List (List Int):=st.getD s []
def moveE (n:Int) (ns:Nat) (l:List (List Int)) (i:Nat):Int:=
 if checkR (nthL l i)=0 then
  (if nth (nthL l i) 0≠n then 22 else if decide (0<i)&&decide (0≤lexN (nthL l (i - 1)) (nthL l i) 7) then 14 else if nth (nthL l i) 7<0∨(ns:Int)≤nth (nthL l i) 7 then 2 else 0)
 else checkR (nthL l i)
def stateE (n:Int) (st:Moves) (s:Nat):Int:=if (nthM st s).length=0 then 19 else firstE (moveE n st.length (nthM st s)) (nthM st s).length
def movesN (st:Moves):Nat:=st.foldl (fun n l=>n+l.length) 0
def inB (a b:Nat):Bool:=allN (fun p=> !a.testBit p||b.testBit p) 5
def growsB (st:Moves):Bool:=allN (fun s=>allN (fun i=>allN (fun k=>inB (nth (nthL (nthM st s) i) 6).toNat (nth (nthL (nthM st (nth (nthL (nthM st s) i) 7).toNat) k) 6).toNat) (nthM st (nth (nthL (nthM st s) i) 7).toNat).length) (nthM st s).length) st.length
def checkA (n:Int) (st:Moves):Int:=
 if n<1∨5<n then 2 else if st.length<1∨256<st.length∨4096<movesN st then 5 else
  if firstE (stateE n st) st.length=0 then (if growsB st then 0 else 21) else firstE (stateE n st) st.length
end Go.Proofs.YtjpakklplhabdaaGreat
