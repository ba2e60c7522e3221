/- Part of the proof that the laws answer true for every input. -/
import Derived.Test.YtaijafjfafbcfaaGreatPXa00
import Derived.OrdersHeld
import Derived.Deep.RegionHeld
import Derived.Laws.OwnMore
set_option linter.unusedSimpArgs false
set_option linter.unnecessarySimpa false
set_option linter.unusedVariables false
set_option maxRecDepth 100000
set_option maxHeartbeats 40000000
namespace Go.Proofs.YtaijafjfafbcfaaGreat
def firstE (f:Nat→Int):Nat→Int
 | 0=>0
 | n+1=>if firstE f n=0 then f n else firstE f n
theorem firstE_zero {f:Nat→Int}:∀{n:Nat},(∀k,k<n→f k=0)→firstE f n=0
 | 0,_=>rfl
 | n+1,h=>by
  unfold firstE
  rw[if_pos (firstE_zero fun k hk=>h k (by omega))]
  exact h n (by omega)
theorem firstE_at {f:Nat→Int} {k:Nat} (h:∀j,j<k→f j=0) (hk:f k≠0):∀{n:Nat},k<n→firstE f n=f k
 | 0,h0=>by omega
 | n+1,h0=>by
  unfold firstE
  by_cases e:k=n
  ·subst e;rw[if_pos (firstE_zero h)]
  ·have:=firstE_at h hk (n:=n) (by omega)
   rw[this,if_neg hk]
theorem firstE_iff {f:Nat→Int} {n:Nat}:firstE f n=0↔∀k,k<n→f k=0:=by
 constructor
 ·induction n with
  | zero=>intro _ k hk;omega
  | succ n ih=>
   intro h k hk
   unfold firstE at h
   split at h
   ·rename_i h0
    by_cases e:k=n
    ·subst e;exact h
    ·exact ih h0 k (by omega)
   ·rename_i h0;exact absurd h h0
 ·exact firstE_zero
def Zeros (f:Nat→Int) (k:Nat):Prop:=∀j,j<k→f j=0
theorem Zeros.zero (f:Nat→Int):Zeros f 0:=fun j hj=>by omega
theorem Zeros.next {f:Nat→Int} {k:Nat} (h:Zeros f k) (h0:f k=0):Zeros f (k+1):=fun j hj=>by
 by_cases e:j=k
 ·subst e;exact h0
 ·exact h j (by omega)
theorem Zeros.done {f:Nat→Int} {k n:Nat} (h:Zeros f k) (hk:n≤k):firstE f n=0:=firstE_zero fun j hj=>h j (by omega)
theorem Zeros.stop {f:Nat→Int} {k n:Nat} {x:Int} (h:Zeros f k) (hx:f k=x) (h0:x≠0) (hk:k<n):firstE f n=x:=by
 rw[firstE_at h (by rw[hx];exact h0) hk,hx]
def allN (f:Nat→Bool):Nat→Bool
 | 0=>true
 | n+1=>allN f n&&f n
theorem allN_iff {f:Nat→Bool}:∀{n:Nat},allN f n=true↔∀k,k<n→f k=true
 | 0=>⟨fun _ k hk=>by omega,fun _=>rfl⟩
 | n+1=>by
  unfold allN
  rw[Bool.and_eq_true,allN_iff]
  constructor
  ·rintro ⟨h,h1⟩ k hk
   by_cases e:k=n
   ·subst e;exact h1
   ·exact h k (by omega)
  ·intro h;exact ⟨fun k hk=>h k (by omega),h n (by omega)⟩
def Alls (f:Nat→Bool) (k:Nat):Prop:=∀j,j<k→f j=true
theorem Alls.zero (f:Nat→Bool):Alls f 0:=fun j hj=>by omega
theorem Alls.next {f:Nat→Bool} {k:Nat} (h:Alls f k) (h0:f k=true):Alls f (k+1):=fun j hj=>by
 by_cases e:j=k
 ·subst e;exact h0
 ·exact h j (by omega)
theorem Alls.done {f:Nat→Bool} {k n:Nat} (h:Alls f k) (hk:n≤k):allN f n=true:=allN_iff.2 fun j hj=>h j (by omega)
theorem allN_no {f:Nat→Bool} {k n:Nat} (h:f k=false) (hk:k<n):allN f n=false:=by
 cases e:allN f n with
 | false=>rfl
 | true=>rw[allN_iff.1 e k hk]at h;cases h
def cmpI (a b:Int):Int:=if a<b then -1 else if b<a then 1 else 0
def lexN (a b:List Int) (n:Nat):Int:=firstE (fun i=>cmpI (nth a i) (nth b i)) n
def ordL (a b:List Int):Int:=if lexN a b (min a.length b.length)=0 then cmpI (a.length:Int) (b.length:Int) else lexN a b (min a.length b.length)
theorem cmpI_zero {a b:Int}:cmpI a b=0↔a=b:=by unfold cmpI;constructor<;>intro h<;>(try subst h)<;>(try split at h)<;>(try split at h)<;>(try omega)<;>simp_all
theorem lexN_zero {a b:List Int} {n:Nat}:lexN a b n=0↔∀i,i<n→nth a i=nth b i:=by
 unfold lexN;rw[firstE_iff]
 exact ⟨fun h i hi=>cmpI_zero.1 (h i hi),fun h i hi=>cmpI_zero.2 (h i hi)⟩
theorem nth_ext {a b:List Int} (hl:a.length=b.length) (h:∀i,i<a.length→nth a i=nth b i):a=b:=by
 apply List.ext_getElem hl
 intro i h1 h2
 have:=h i h1
 rwa [nth_eq h1,nth_eq h2]at this
theorem ordL_zero {a b:List Int}:ordL a b=0↔a=b:=by
 unfold ordL
 constructor
 ·intro h
  split at h
  ·rename_i h0
   have hl:a.length=b.length:=by have:=cmpI_zero.1 h;omega
   exact nth_ext hl fun i hi=>lexN_zero.1 h0 i (by omega)
  ·rename_i h0;exact absurd h h0
 ·intro h;subst h
  have:lexN a a (min a.length a.length)=0:=lexN_zero.2 fun _ _=>rfl
  rw[if_pos this];exact cmpI_zero.2 rfl
def gAt (n:Int) (p:Nat) (x:Int):Int:=if n≤(p:Int) then (if x=0 then 0 else 3) else if x<0∨((2 ^ n.toNat:Nat):Int) - 1<x then 2 else if x.toNat.testBit p then 0 else 3
def checkG (l:List Int):Int:=if nth l 0<1∨5<nth l 0 then 2 else firstE (fun p=>gAt (nth l 0) p (nth l (p+1))) 5
def checkP (n s:Int):Int:=if n<1∨5<n then 1 else if s<0∨((2 ^ n.toNat:Nat):Int)≤s then 2 else 0
def checkR (l:List Int):Int:=if checkG l=0 then checkP (nth l 0) (nth l 6) else checkG l
abbrev CaseD:=List Int×List (List Int)×List (List Int)
def CaseD.inn (c:CaseD):List Int:=c.1
def CaseD.out (c:CaseD):List (List Int):=c.2.1
def CaseD.calm (c:CaseD):List (List Int):=c.2.2
def nthC (l:List CaseD) (k:Nat):CaseD:=l.getD k ([],[],[])
def vecE (v:List Int) (n most:Int):Int:=if (v.length:Int)=n then (if v.any (fun x=>decide (x<0)||decide (most≤x)) then 2 else 0) else 15
def unord (l:List (List Int)) (k:Nat):Bool:=decide (0<k)&&decide (0≤ordL (nthL l (k - 1)) (nthL l k))
def outE (n outs:Int) (l:List (List Int)) (k:Nat):Int:=if vecE (nthL l k) n outs=0 then (if unord l k then 14 else 0) else vecE (nthL l k) n outs
def calmE (o l:List (List Int)) (k:Nat):Int:=if decide (nthL l k∈o) then (if unord l k then 14 else 0) else 6
def vecsE (n outs:Int) (c:CaseD):Int:=
 if c.out.length<1∨1024<c.out.length then 5 else
  if firstE (outE n outs c.out) c.out.length=0 then firstE (calmE c.out c.calm) c.calm.length else firstE (outE n outs c.out) c.out.length
def caseE (n ins outs:Int) (l:List CaseD) (k:Nat):Int:=
 if vecE (nthC l k).inn n ins=0 then
  (if decide (0<k)&&decide (0≤ordL (nthC l (k - 1)).inn (nthC l k).inn) then 14 else vecsE n outs (nthC l k))
 else vecE (nthC l k).inn n ins
def checkT (n ins outs:Int) (l:List CaseD):Int:=
 if n<1∨5<n∨ins<1∨8<ins∨outs<1∨8<outs then 2 else if l.length<1∨1024<l.length then 5 else firstE (caseE n ins outs l) l.length
abbrev Moves:=List (List (List Int))
def nthM (st:Moves) (s:Nat):List (List Int):=st.getD s []
def moveE (n:Int) (ns:Nat) (l:List (List Int)) (i:Nat):Int:=
 if checkR (nthL l i)=0 then
  (if nth (nthL l i) 0≠n then 22 else if decide (0<i)&&decide (0≤lexN (nthL l (i - 1)) (nthL l i) 7) then 14 else if nth (nthL l i) 7<0∨(ns:Int)≤nth (nthL l i) 7 then 2 else 0)
 else checkR (nthL l i)
def stateE (n:Int) (st:Moves) (s:Nat):Int:=if (nthM st s).length=0 then 19 else firstE (moveE n st.length (nthM st s)) (nthM st s).length
def movesN (st:Moves):Nat:=st.foldl (fun n l=>n+l.length) 0
def inB (a b:Nat):Bool:=allN (fun p=> !a.testBit p||b.testBit p) 5
def growsB (st:Moves):Bool:=allN (fun s=>allN (fun i=>allN (fun k=>inB (nth (nthL (nthM st s) i) 6).toNat (nth (nthL (nthM st (nth (nthL (nthM st s) i) 7).toNat) k) 6).toNat) (nthM st (nth (nthL (nthM st s) i) 7).toNat).length) (nthM st s).length) st.length
def checkA (n:Int) (st:Moves):Int:=
 if n<1∨5<n then 2 else if st.length<1∨256<st.length∨4096<movesN st then 5 else
  if firstE (stateE n st) st.length=0 then (if growsB st then 0 else 21) else firstE (stateE n st) st.length
end Go.Proofs.YtaijafjfafbcfaaGreat
namespace Go.Proofs.YtaijafjfafbcfaaGreat
structure ProbD where
 n:Int
 ins:Int
 outs:Int
 cs:List CaseD
 an:Int
 st:Moves
 rounds:Int
def checkPr (p:ProbD):Int:=
 if checkT p.n p.ins p.outs p.cs=0 then
  (if checkA p.an p.st=0 then (if p.n=p.an then (if p.rounds<0∨6<p.rounds then 2 else 0) else 22) else checkA p.an p.st)
 else checkT p.n p.ins p.outs p.cs
def wordsD (st:Moves):Nat→Nat→List (List (List Int))
 | 0,_=>[[]]
 | k+1,s=>(nthM st s).flatMap fun m=>(wordsD st k (nth m 7).toNat).map fun w=>m.take 7::w
def cntW (st:Moves):Nat→Nat→Nat
 | 0,_=>1
 | k+1,s=>((nthM st s).map fun m=>cntW st k (nth m 7).toNat).sum
theorem length_wordsD (st:Moves):∀k s,(wordsD st k s).length=cntW st k s
 | 0,_=>rfl
 | k+1,s=>by
  unfold wordsD cntW
  rw[List.length_flatMap]
  congr 1
  apply List.map_congr_left
  intro m _
  rw[List.length_map,length_wordsD st k]
theorem words_len (st:Moves):∀k s,∀w∈wordsD st k s,w.length=k
 | 0,s,w,h=>by rw[List.mem_singleton.1 h];rfl
 | k+1,s,w,h=>by
  unfold wordsD at h
  obtain ⟨m,hm,h⟩:=List.mem_flatMap.1 h
  obtain ⟨v,hv,rfl⟩:=List.mem_map.1 h
  rw[List.length_cons,words_len st k _ v hv]
def idxV (t:List (List Int)) (v:List Int):Nat:=t.idxOf v
def addV (t:List (List Int)) (v:List Int):List (List Int):=if v∈t then t else t++[v]
theorem idxV_le (t:List (List Int)) (v:List Int):idxV t v≤t.length:=List.idxOf_le_length
theorem idxV_in {t:List (List Int)} {v:List Int}:idxV t v<t.length↔v∈t:=List.idxOf_lt_length_iff
theorem idxV_not {t:List (List Int)} {v:List Int} (h:v∉t):idxV t v=t.length:=by
 have h1:=idxV_le t v
 have h2:¬idxV t v<t.length:=fun h3=>h (idxV_in.1 h3)
 omega
theorem idxV_lt (t:List (List Int)) (v:List Int):idxV t v<(addV t v).length:=by
 unfold addV
 split
 ·rename_i h;exact idxV_in.2 h
 ·rename_i h;rw[idxV_not h];simp
theorem nthL_idxV {t:List (List Int)} {v:List Int} (h:v∈t):nthL t (idxV t v)=v:=by
 rw[nthL_eq (idxV_in.2 h)];exact List.getElem_idxOf (idxV_in.2 h)
theorem addV_get (t:List (List Int)) (v:List Int):nthL (addV t v) (idxV t v)=v:=by
 unfold addV
 split
 ·rename_i h;exact nthL_idxV h
 ·rename_i h;rw[idxV_not h];simp[nthL]
theorem addV_prefix (t:List (List Int)) (v:List Int):t<+:addV t v:=by
 unfold addV
 split
 ·exact List.prefix_rfl
 ·exact List.prefix_append _ _
theorem addV_nodup {t:List (List Int)} {v:List Int} (h:t.Nodup):(addV t v).Nodup:=by
 unfold addV
 split
 ·exact h
 ·rename_i hv
  rw[List.nodup_append]
  exact ⟨h,by simp,fun a ha b hb e=>hv (by rw[List.mem_singleton.1 hb]at e;exact e▸ha)⟩
theorem addV_len (t:List (List Int)) (v:List Int):(addV t v).length≤t.length+1:=by
 unfold addV;split<;>simp
theorem idxV_first {t:List (List Int)} {v:List Int} {k:Nat} (hk:k<t.length) (he:nthL t k=v) (h:∀j,j<k→nthL t j≠v):idxV t v=k:=by
 have hm:v∈t:=he▸nthL_mem hk
 have h1:=nthL_idxV hm
 have h2:=idxV_in.2 hm
 rcases Nat.lt_trichotomy (idxV t v) k with h3 | h3 | h3
 ·exact absurd h1 (h _ h3)
 ·exact h3
 ·exfalso
  have:¬(t.idxOf v>k):=by
   have:=List.not_of_lt_findIdx (p:=fun x=>x==v) (xs:=t) (i:=k)
   intro hgt
   have h5:=this (by simpa[List.idxOf] using hgt)
   rw[nthL_eq hk]at he
   simp[he]at h5
  exact this h3
theorem idxV_none {t:List (List Int)} {v:List Int} (h:∀j,j<t.length→nthL t j≠v):v∉t:=fun hm=>h _ (idxV_in.2 hm) (nthL_idxV hm)
def firstV (q:Nat) (x:Int):List Int:=[q,0,x, -1, -1, -1, -1, -1]
def heardV (g:List Int) (n:Nat) (q:Nat) (prev:List Int) (r:Nat):Int:=if r<n∧(nth g (q+1)).toNat.testBit r=true then nth prev r else -1
def seenV (g:List Int) (n k q:Nat) (prev:List Int):List Int:=[q,k,0,heardV g n q prev 0,heardV g n q prev 1,heardV g n q prev 2,heardV g n q prev 3,heardV g n q prev 4]
def layV (mk:Nat→List Int) (t:List (List Int)):Nat→List (List Int)×List Int
 | 0=>(t,[])
 | q+1=>(addV (layV mk t q).1 (mk q),(layV mk t q).2++[(idxV (layV mk t q).1 (mk q):Int)])
theorem layV_len (mk:Nat→List Int) (t:List (List Int)):∀q,(layV mk t q).2.length=q
 | 0=>rfl
 | q+1=>by unfold layV;simp[layV_len mk t q]
theorem layV_prefix (mk:Nat→List Int) (t:List (List Int)):∀q,t<+:(layV mk t q).1
 | 0=>List.prefix_rfl
 | q+1=>by unfold layV;exact (layV_prefix mk t q).trans (addV_prefix _ _)
theorem layV_size (mk:Nat→List Int) (t:List (List Int)):∀q,(layV mk t q).1.length≤t.length+q
 | 0=>by simp[layV]
 | q+1=>by
  unfold layV
  have h1:=layV_size mk t q
  have h2:=addV_len (layV mk t q).1 (mk q)
  dsimp only
  omega
def playV (n:Nat) (inn:List Int) (word:List (List Int)) (t:List (List Int)):Nat→List (List Int)×List (List Int)
 | 0=>((layV (fun q=>firstV q (nth inn q)) t n).1,[(layV (fun q=>firstV q (nth inn q)) t n).2])
 | k+1=>((layV (fun q=>seenV (nthL word k) n (k+1) q (nthL (playV n inn word t k).2 k)) (playV n inn word t k).1 n).1,
   (playV n inn word t k).2++[(layV (fun q=>seenV (nthL word k) n (k+1) q (nthL (playV n inn word t k).2 k)) (playV n inn word t k).1 n).2])
theorem playV_len (n:Nat) (inn:List Int) (word:List (List Int)) (t:List (List Int)):∀k,(playV n inn word t k).2.length=k+1
 | 0=>rfl
 | k+1=>by unfold playV;simp[playV_len n inn word t k]
theorem playV_size (n:Nat) (inn:List Int) (word:List (List Int)) (t:List (List Int)):∀k,(playV n inn word t k).1.length≤t.length+n * (k+1)
 | 0=>by unfold playV;have:=layV_size (fun q=>firstV q (nth inn q)) t n;simpa using this
 | k+1=>by
  unfold playV
  have h1:=playV_size n inn word t k
  have h2:=layV_size (fun q=>seenV (nthL word k) n (k+1) q (nthL (playV n inn word t k).2 k)) (playV n inn word t k).1 n
  dsimp only
  have h3:n * (k+1+1)=n * (k+1)+n:=Nat.mul_succ ..
  omega
abbrev ExecD:=Int×List (List Int)×List (List Int)
def ExecD.case (x:ExecD):Int:=x.1
def ExecD.word (x:ExecD):List (List Int):=x.2.1
def ExecD.vs (x:ExecD):List (List Int):=x.2.2
def nthX (l:List ExecD) (k:Nat):ExecD:=l.getD k (0,[],[])
theorem nthX_eq {l:List ExecD} {k:Nat} (h:k<l.length):nthX l k=l[k]:=by simp[nthX,h]
theorem nthX_mem {l:List ExecD} {k:Nat} (h:k<l.length):nthX l k∈l:=by rw[nthX_eq h];exact List.getElem_mem h
theorem take_nthX {l:List ExecD} {k:Nat} (h:k<l.length):l.take (k+1)=l.take k++[nthX l k]:=by rw[nthX_eq h];exact (List.take_append_getElem h).symm
def pairsW (c:Nat) (ws:List (List (List Int))):List (Nat×List (List Int)):=(List.range c).flatMap fun i=>ws.map fun w=>(i,w)
def stepE (n:Nat) (cs:List CaseD) (a:List (List Int)×List ExecD) (x:Nat×List (List Int)):List (List Int)×List ExecD:=
 ((playV n (nthC cs x.1).inn x.2 a.1 x.2.length).1,a.2++[((x.1:Int),x.2,(playV n (nthC cs x.1).inn x.2 a.1 x.2.length).2)])
def runE (n:Nat) (cs:List CaseD) (l:List (Nat×List (List Int))):List (List Int)×List ExecD:=l.foldl (stepE n cs) ([],[])
theorem runE_snoc (n:Nat) (cs:List CaseD) (l:List (Nat×List (List Int))) (x:Nat×List (List Int)):runE n cs (l++[x])=stepE n cs (runE n cs l) x:=by
 unfold runE;rw[List.foldl_append];rfl
theorem runE_len (n:Nat) (cs:List CaseD):∀l:List (Nat×List (List Int)),(runE n cs l).2.length=l.length:=by
 intro l
 have:∀(l:List (Nat×List (List Int))) (a:List (List Int)×List ExecD),(l.foldl (stepE n cs) a).2.length=a.2.length+l.length:=by
  intro l
  induction l with
  | nil=>intro a;simp
  | cons x r ih=>intro a;rw[List.foldl_cons,ih];simp[stepE];omega
 simpa[runE] using this l ([],[])
theorem runE_size (n K:Nat) (cs:List CaseD) (l:List (Nat×List (List Int))) (h:∀x∈l,x.2.length=K):(runE n cs l).1.length≤l.length * (n * (K+1)):=by
 have:∀(l:List (Nat×List (List Int))) (a:List (List Int)×List ExecD),(∀x∈l,x.2.length=K)→(l.foldl (stepE n cs) a).1.length≤a.1.length+l.length * (n * (K+1)):=by
  intro l
  induction l with
  | nil=>intro a _;simp
  | cons x r ih=>
   intro a hx
   rw[List.foldl_cons]
   have h1:=ih (stepE n cs a x) (fun y hy=>hx y (by simp[hy]))
   have h2:=playV_size n (nthC cs x.1).inn x.2 a.1 x.2.length
   rw[hx x (by simp)]at h2
   have h3:(stepE n cs a x).1.length=(playV n (nthC cs x.1).inn x.2 a.1 K).1.length:=by unfold stepE;rw[hx x (by simp)]
   rw[List.length_cons,Nat.add_mul,Nat.one_mul]
   omega
 simpa[runE] using this l ([],[]) h
theorem pairsW_len (c:Nat) (ws:List (List (List Int))):(pairsW c ws).length=c * ws.length:=by
 unfold pairsW
 rw[List.length_flatMap]
 simp only[List.length_map]
 rw[List.map_const',List.sum_replicate_nat,List.length_range]
def ProbD.pairs (p:ProbD):List (Nat×List (List Int)):=pairsW p.cs.length (wordsD p.st p.rounds.toNat 0)
def ProbD.sys (p:ProbD):List (List Int)×List ExecD:=runE p.n.toNat p.cs p.pairs
def ProbD.num (p:ProbD):Nat:=p.cs.length * cntW p.st p.rounds.toNat 0
theorem ProbD.pairs_len (p:ProbD):p.pairs.length=p.num:=by unfold ProbD.pairs ProbD.num;rw[pairsW_len,length_wordsD]
theorem ProbD.pairs_word (p:ProbD):∀x∈p.pairs,x.2.length=p.rounds.toNat:=by
 intro x hx
 unfold ProbD.pairs pairsW at hx
 obtain ⟨i,hi,hx⟩:=List.mem_flatMap.1 hx
 obtain ⟨w,hw,rfl⟩:=List.mem_map.1 hx
 exact words_len _ _ _ _ hw
theorem ProbD.pairs_case (p:ProbD):∀x∈p.pairs,x.1<p.cs.length:=by
 intro x hx
 unfold ProbD.pairs pairsW at hx
 obtain ⟨i,hi,hx⟩:=List.mem_flatMap.1 hx
 obtain ⟨w,hw,rfl⟩:=List.mem_map.1 hx
 exact List.mem_range.1 hi
def buildE (p:ProbD):Int:=if checkPr p=0 then (if 4096<p.num then 17 else 0) else checkPr p
def SmallP (p:ProbD):Prop:=checkPr p=0→p.num≤4096→p.num≤60∧p.n≤3
structure SysF where
 p:ProbD
 tn:Int
 tab:List (List Int)
 ex:List ExecD
def verE (s:SysF):Int:=if buildE s.p=0 then (if s.tn=s.p.n∧s.tab=s.p.sys.1∧s.ex=s.p.sys.2 then 0 else 3) else buildE s.p
end Go.Proofs.YtaijafjfafbcfaaGreat
namespace Go.Proofs.YtaijafjfafbcfaaGreat
open Go.RowKit Go.Maps
theorem laid_prog:laidOutB Tryz.prog=true:=by kernel_rfl
theorem view_row:(147:TypeId)<Tryz.prog.types.size:=of_decide_eq_true (by kernel_rfl)
theorem view_wide:(match Tryz.prog.underlying 147 with | some (.array _ _) | some (.struct _)=>true | _=>false)=true:=by kernel_rfl
theorem view_law:WideMaps.KeyLaw Tryz.prog 147:=deep_law_laid laid_prog (m:=3) (by omega) view_row (by kernel_rfl) view_wide
theorem view_keytype:Tryz.prog.keyType 147=true:=by kernel_rfl
theorem view_cells:Tryz.prog.cellsOf 147=8:=by kernel_rfl
theorem five_cells:Tryz.prog.cellsOf 115=5:=by kernel_rfl
theorem int_cells:Tryz.prog.cellsOf 3=1:=by kernel_rfl
theorem types_big:∃d,Tryz.prog.types.size=d+3:=⟨Tryz.prog.types.size - 3,by kernel_rfl⟩
theorem keyLits_int (d:Nat) (x:Int) (h:WF x):Tryz.prog.keyLits (d+1) 3 [.int .i64 x]=some [.int .i64 x]:=by
 simp[Program.keyLits,Tryz.underlying3,h.lit]
theorem view_lits (x:List Int) (hl:x.length=8) (hw:∀y∈x,WF y):∃ls,Tryz.prog.keyLits (Tryz.prog.types.size+1) 147 (x.map (Value.int .i64))=some ls:=by
 match x,hl with
 | [a,b,c,d,e,f,g,h],_=>
  obtain ⟨n,hn⟩:=types_big
  rw[hn]
  have ha:=keyLits_int (n+2) a (hw a (by simp))
  have hb:=keyLits_int (n+2) b (hw b (by simp))
  have hc:=keyLits_int (n+2) c (hw c (by simp))
  have hd:=keyLits_int (n+1) d (hw d (by simp))
  have he:=keyLits_int (n+1) e (hw e (by simp))
  have hf:=keyLits_int (n+1) f (hw f (by simp))
  have hg:=keyLits_int (n+1) g (hw g (by simp))
  have hh:=keyLits_int (n+1) h (hw h (by simp))
  have wa:=(hw a (by simp)).lit
  have wb:=(hw b (by simp)).lit
  have wc:=(hw c (by simp)).lit
  have wd:=(hw d (by simp)).lit
  have we:=(hw e (by simp)).lit
  have wf:=(hw f (by simp)).lit
  have wg:=(hw g (by simp)).lit
  have wh:=(hw h (by simp)).lit
  have h5:Tryz.prog.keyLits (n+3) 115 [.int .i64 d,.int .i64 e,.int .i64 f,.int .i64 g,.int .i64 h]=some [.int .i64 d,.int .i64 e,.int .i64 f,.int .i64 g,.int .i64 h]:=by
   simp[Program.keyLits,Tryz.underlying115,Tryz.underlying3,five_cells,int_cells,List.range_succ,wd,we,wf,wg,wh]
  refine ⟨[.int .i64 a,.int .i64 b,.int .i64 c,.int .i64 d,.int .i64 e,.int .i64 f,.int .i64 g,.int .i64 h],?_⟩
  simp[Program.keyLits,Tryz.underlying147,Tryz.underlying115,Tryz.underlying3,view_cells,int_cells,five_cells,List.range_succ,wa,wb,wc,wd,we,wf,wg,wh]
theorem view_formed (xs:List Value) (h:xs.length=8):(Value.agg xs.toArray).formed Tryz.prog 147=true:=by
 simp[Value.formed,Tryz.underlying147,view_cells,h]
noncomputable def viewKey:KeyB Tryz.prog 147 (List Int) where
 law:=Keyed.of_law view_law
 kv x:=.agg (x.map (Value.int .i64)).toArray
 kl x:=(keyOf Tryz.prog 147 (.agg (x.map (Value.int .i64)).toArray)).getD (.bool true)
 ok x:=x.length=8∧∀y∈x,WF y
 reads x h:=by
  obtain ⟨ls,hls⟩:=view_lits x h.1 h.2
  have:∃l,keyOf Tryz.prog 147 (.agg (x.map (Value.int .i64)).toArray)=some l:=by
   unfold keyOf
   have hf:=view_formed (x.map (Value.int .i64)) (by simp[h.1])
   simp only[Tryz.underlying147,view_keytype,hf,Bool.and_self,if_true]
   simp only[Value.cells]
   rw[hls]
   exact ⟨_,rfl⟩
  obtain ⟨l,hl⟩:=this
  rw[hl];rfl
 inj x y h:=by
  injection h with h
  have h2:x.map (Value.int .i64)=y.map (Value.int .i64):=by
   have:=congrArg Array.toList h
   simpa using this
  exact (List.map_inj_right (fun a b e=>by injection e)).1 h2
end Go.Proofs.YtaijafjfafbcfaaGreat
namespace Go.Proofs.YtaijafjfafbcfaaGreat
open Go.RowKit
theorem info_int:(Tryz.prog.info? 3).map (fun i=>(i.zero,i.size,i.bytes))=some (some (.int .i64 0),1,8):=by kernel_rfl
theorem take_eq_step {l1 l2:List Int} {k:Nat} (hk1:k<l1.length) (hk2:k<l2.length) (h:l1.take k=l2.take k) (e:nth l1 k=nth l2 k):l1.take (k+1)=l2.take (k+1):=by
 rw[take_nth hk1,take_nth hk2,h,e]
theorem equal_quiet {S S':Nat→Prop} {w:World} {v1 v2:Value} {l1 l2:List Int} (h1:Ints S w v1 l1) (h2:Ints S' w v2 l2):
  Calls Tryz.prog 29 #[v1,v2] w (QuietP w (.bool (decide (l1=l2)))):=by
 obtain ⟨a1,cap1,rfl,ha1,_,hm1,hc1,_⟩:=h1
 obtain ⟨a2,cap2,rfl,ha2,_,_,hc2,_⟩:=h2
 unfold maxLen at hm1
 obtain ⟨i0,hi,hz0,hz1,hz2⟩:=info_parts info_int
 have hix1:=idx_one Tryz.underlying44 hi hz1 ha1
 have hix2:=idx_one Tryz.underlying44 hi hz1 ha2
 clear hi hz0 hz1 hz2
 by_cases hlen:l1.length=l2.length
 ·have hne:((l1.length:Int) !=l2.length)=false:=by simp[hlen]
  have HL:=Lib.hid hlen
  clear hlen
  go_enter Tryz.func29,Tryz.ntmps29
  go_wp2
  go_loopw [13] (fun i wr=>∃k:Nat,k≤l1.length∧i=.int .i64 k∧(∃m,wr=w.drewN m)∧l1.take k=l2.take k) (fun i _=>l1.length - (intOf i).toNat)
  case atStart=>exact ⟨0,by omega,rfl,⟨0,rfl⟩,rfl⟩
  case round=>
   obtain ⟨k,hk,rfl,⟨m,rfl⟩,hrel⟩:=hrel
   have H:=Lib.hid hrel
   clear hrel
   by_cases hlt:k<l1.length
   ·have hlt2:k<l2.length:=by have:=HL.out;omega
    have q1:=hix1 k hlt
    have q2:=hix2 k hlt2
    have p1:=hc1 k hlt
    have p2:=hc2 k hlt2
    clear hix1 hix2 hc1 hc2
    by_cases he:nth l1 k=nth l2 k
    ·have he':(nth l1 k !=nth l2 k)=false:=by simp[he]
     have HE:=Lib.hid he
     clear he
     go_wp2
     go_quiet (fail)
     go_wp2
     go_roundw
     case rel=>exact ⟨k+1,by omega,by go_num,⟨_,rfl⟩,take_eq_step hlt hlt2 H.out HE.out⟩
     case measure=>simp[intOf];omega
    ·have he':(nth l1 k !=nth l2 k)=true:=by simp[he]
     go_wp2
     go_quiet (fail)
     go_wp2
     go_ret
     rw[World.drewN_drewN]
     exact .of (bool_eq (decide_eq_false (fun (e:l1=l2)=>he (by rw[e]))).symm) _
   ·go_wp2
    go_ret
    refine .of (bool_eq ?_) _
    have:=H.out
    have h2:=HL.out
    rw[List.take_of_length_le (by omega),List.take_of_length_le (by omega)]at this
    exact (decide_eq_true this).symm
 ·have hne:((l1.length:Int) !=l2.length)=true:=by simp;omega
  go_enter Tryz.func29,Tryz.ntmps29
  go_wp2
  go_ret
  exact .of (bool_eq (decide_eq_false (fun (e:l1=l2)=>hlen (by rw[e]))).symm) 0
theorem equal_calls {S S':Nat→Prop} {w:World} {v1 v2:Value} {l1 l2:List Int} (h1:Ints S w v1 l1) (h2:Ints S' w v2 l2):
  Calls Tryz.prog 29 #[v1,v2] w (Post w fun _ r=>r=.bool (decide (l1=l2))):=(equal_quiet h1 h2).mono fun _ _ h=>h.post
end Go.Proofs.YtaijafjfafbcfaaGreat
namespace Go.Proofs.YtaijafjfafbcfaaGreat
section
variable {P:Program} {ops:Array Oper} {Q:Exit→Act→World→Prop} {md:Region.Mode} {S:World→Prop} {X:Nat→Bool}
def AnyE (P:Program) (md:Region.Mode) (ops:Array Oper) (Q:Exit→Act→World→Prop) (S:World→Prop) (X:Nat→Bool):Nat→Array Bool→Act→World→Prop
 | 0,listed,a,w=>Region.ready md ops listed=[]∧Q .normal a w
 | fuel+1,listed,a,w=>
  (Region.ready md ops listed=[]→Q .normal a w)∧
  ∀i∈Region.ready md ops listed,wpOp P ops Q i (fun a' w'=>(X i=false→S w')∧AnyE P md ops Q S X fuel (listed.setIfInBounds i true) a' w') a w
theorem any_of_anyE:∀(fuel:Nat) (listed:Array Bool) (a:Act) (w:World),AnyE P md ops Q S X fuel listed a w→wpAny P md ops Q fuel listed a w
 | 0,_,_,_,h=>h
 | fuel+1,_,_,_,h=>⟨h.1,fun i hi=>wpOp_mono (fun a' w' h'=>any_of_anyE fuel _ a' w' h'.2) (h.2 i hi)⟩
def waitFor (md:Region.Mode) (ops:Array Oper) (X:Nat→Bool) (i:Nat):Bool:=
 (List.range ops.size).all fun j=> !X j||(match ops[j]? with | some o=>o.after.any (fun e=>Region.binds md e&&e.on==i) | none=>true)
theorem waitFor_spec {i j:Nat} {oj:Oper} (h:waitFor md ops X i=true) (hj:ops[j]? =some oj) (hn:∀e∈oj.after,Region.binds md e=true→e.on≠i):X j=false:=by
 have hlt:j<ops.size:=(Array.getElem?_eq_some_iff.1 hj).1
 have:=List.all_eq_true.1 h j (List.mem_range.2 hlt)
 rw[hj]at this
 cases hx:X j with
 | false=>rfl
 | true=>
  rw[hx]at this
  simp only[Bool.not_true,Bool.false_or]at this
  rw[Array.any_eq_true]at this
  obtain ⟨k,hk,he⟩:=this
  simp only[Bool.and_eq_true,beq_iff_eq]at he
  exact absurd he.2 (hn _ (Array.getElem_mem hk) he.1)
theorem anyE_first {i:Nat} {oi:Oper} {v:Value} (hi:ops[i]? =some oi) (hsel:∀(j:Nat) (o:Oper) cs b,ops[j]? =some o→o.op≠.select cs b)
  (hX:waitFor md ops X i=true) (hQ:∀c a w,Q (.panic c) (a.put oi.dst v) w→Q (.panic c) a w):
  ∀(fuel:Nat) (listed:Array Bool) (a:Act) (w:World),
   (∀j oj,ops[j]? =some oj→j≠i→listed.getD j true=false→(∀e∈oj.after,Region.binds md e=true→e.on≠i)→oi.apart ops oj=true)→
   i∈Region.ready md ops listed→YieldsIf P ops S oi v a→S w→
   AnyE P md ops Q S X fuel (listed.setIfInBounds i true) (a.put oi.dst v) w→AnyE P md ops Q S X (fuel+1) listed a w:=by
 intro fuel
 induction fuel with
 | zero=>
  intro listed a w _ hr hy hS H
  refine ⟨fun h=>(by rw[h]at hr;cases hr),fun j hj=>?_⟩
  by_cases hji:j=i
  ·subst hji;exact hy.wpOp hi hS ⟨fun _=>hS,H⟩
  ·have:=ready_mono hj hji
   rw[H.1]at this
   cases this
 | succ fuel ih=>
  intro listed a w hfree hr hy hS H
  refine ⟨fun h=>(by rw[h]at hr;cases hr),fun j hj=>?_⟩
  by_cases hji:j=i
  ·subst hji;exact hy.wpOp hi hS ⟨fun _=>hS,H⟩
  ·have h1:=H.2 j (ready_mono hj hji)
   obtain ⟨hjun,oj,hoj,hall⟩:=mem_ready.1 hj
   have hnot:∀e∈oj.after,Region.binds md e=true→e.on≠i:=fun e he hb heq=>by
    have k1:=hall e he hb
    have k0:=(mem_ready.1 hr).1
    rw[heq]at k1
    rcases Nat.lt_or_ge i listed.size with h' | h'
    ·simp[h']at k0 k1;rw[k0]at k1;cases k1
    ·simp[Array.getElem?_eq_none h']at k1
   have hxj:X j=false:=waitFor_spec hX hoj hnot
   have h2:=wpOp_putIf hoj (hfree j oj hoj hji hjun hnot) (fun cs b=>hsel i oi cs b hi) (fun cs b=>hsel j oj cs b hoj) hQ hy h1
   refine wpOp_mono (fun a' w' h3=>⟨fun _=>h3.2.1 hxj,ih (listed.setIfInBounds j true) a' w' (fun k ok hk hki hun hno=>?_) (ready_mono hr (Ne.symm hji)) h3.1 (h3.2.1 hxj) ?_⟩) h2
   ·refine hfree k ok hk hki ?_ hno
    by_cases hjk:j=k
    ·subst hjk;exact hjun
    ·rw[getD_set_ne true hjk]at hun;exact hun
   ·rw[Array.setIfInBounds_comm _ _ hji]
    exact h3.2.2
theorem anyE_take0 {i:Nat} {oi:Oper} {v:Value} {fuel:Nat} {listed:Array Bool} {a:Act} {w:World} (hi:ops[i]? =some oi) (hs:Region.noSelect ops=true)
  (hf:(Region.free md ops listed i&&((Region.ready md ops listed).contains i&&waitFor md ops X i))=true)
  (hQ:∀c a w,Q (.panic c) (a.put oi.dst v) w→Q (.panic c) a w) (hy:YieldsIf P ops S oi v a) (hS:S w)
  (h:AnyE P md ops Q S X fuel (listed.setIfInBounds i true) (a.put oi.dst v) w):AnyE P md ops Q S X (fuel+1) listed a w:=by
 simp only[Bool.and_eq_true]at hf
 exact anyE_first hi (Region.noSelect_spec hs) hf.2.2 hQ fuel listed a w (Region.free_spec hi hf.1) (by simpa using hf.2.1) hy hS h
theorem anyE_one0 {i:Nat} {o:Oper} {fuel:Nat} {listed:Array Bool} {a:Act} {w:World} (ho:ops[i]? =some o) (hr:Region.ready md ops listed=[i])
  (h:∀K':Act→World→Prop,Shut (∀a w,(X i=false→S w)→((X i=false→S w)→AnyE P md ops Q S X fuel (listed.setIfInBounds i true) a w)→K' a w)→if Region.wanted o (yielded ops a.tmps)=true then Oper.wp P o a w K' Q else K' (a.put o.dst undef) w):
  AnyE P md ops Q S X (fuel+1) listed a w:=by
 refine ⟨fun h0=>(by rw[hr]at h0;cases h0),fun j hj=>?_⟩
 rw[hr]at hj
 obtain rfl:j=i:=by simpa using hj
 exact wpOp_step ho fun K' hK=>h K' fun a w h1 h2=>hK a w ⟨h1,h2 h1⟩
theorem anyE_take {l:List Oper} (i:Nat) {oi:Oper} {v:Value} {fuel:Nat} {listed:Array Bool} {a:Act} {w:World} (hi:l[i]? =some oi)
  (hf:(Region.noSelect l.toArray&&(Region.free md l.toArray listed i&&((Region.ready md l.toArray listed).contains i&&waitFor md l.toArray X i)))=true)
  (hQ:∀c a w,Q (.panic c) (a.put oi.dst v) w→Q (.panic c) a w) (hw:Region.wanted oi (yielded l.toArray a.tmps)=true) (hy:∀w,S w→(execOp a.eval oi).run P w=.ok (.value v) w) (hS:S w)
  (h:AnyE P md l.toArray Q S X fuel (listed.setIfInBounds i true) (a.put oi.dst v) w):AnyE P md l.toArray Q S X (fuel+1) listed a w:=by
 simp only[Bool.and_eq_true]at hf
 exact anyE_take0 (by simpa using hi) hf.1 (by simp only[Bool.and_eq_true];exact hf.2) hQ (.inl ⟨hw,hy⟩) hS h
theorem anyE_one {l:List Oper} (i:Nat) {o:Oper} {fuel:Nat} {listed:Array Bool} {a:Act} {w:World} (ho:l[i]? =some o) (hr:Region.ready md l.toArray listed=[i])
  (h:∀K':Act→World→Prop,Shut (∀a w,(X i=false→S w)→((X i=false→S w)→AnyE P md l.toArray Q S X fuel (listed.setIfInBounds i true) a w)→K' a w)→if Region.wanted o (yielded l.toArray a.tmps)=true then Oper.wp P o a w K' Q else K' (a.put o.dst undef) w):
  AnyE P md l.toArray Q S X (fuel+1) listed a w:=anyE_one0 (by simpa using ho) hr h
theorem anyE_two {l:List Oper} (i j:Nat) {oi oj:Oper} {fuel:Nat} {listed:Array Bool} {a:Act} {w:World} (hi:l[i]? =some oi) (hj:l[j]? =some oj) (hr:Region.ready md l.toArray listed=[i,j])
  (h1:∀K':Act→World→Prop,Shut (∀a w,(X i=false→S w)→((X i=false→S w)→AnyE P md l.toArray Q S X fuel (listed.setIfInBounds i true) a w)→K' a w)→if Region.wanted oi (yielded l.toArray a.tmps)=true then Oper.wp P oi a w K' Q else K' (a.put oi.dst undef) w)
  (h2:∀K':Act→World→Prop,Shut (∀a w,(X j=false→S w)→((X j=false→S w)→AnyE P md l.toArray Q S X fuel (listed.setIfInBounds j true) a w)→K' a w)→if Region.wanted oj (yielded l.toArray a.tmps)=true then Oper.wp P oj a w K' Q else K' (a.put oj.dst undef) w):
  AnyE P md l.toArray Q S X (fuel+1) listed a w:=by
 refine ⟨fun h0=>(by rw[hr]at h0;cases h0),fun k hk=>?_⟩
 rw[hr]at hk
 have:k=i∨k=j:=by simpa using hk
 rcases this with rfl | rfl
 ·exact wpOp_step (by simpa using hi) fun K' hK=>h1 K' fun a w q1 q2=>hK a w ⟨q1,q2 q1⟩
 ·exact wpOp_step (by simpa using hj) fun K' hK=>h2 K' fun a w q1 q2=>hK a w ⟨q1,q2 q1⟩
theorem anyE_done {listed:Array Bool} {a:Act} {w:World} (hr:Region.ready md ops listed=[]) (h:Q .normal a w):
  ∀fuel,AnyE P md ops Q S X fuel listed a w
 | 0=>⟨hr,h⟩
 | _+1=>⟨fun _=>h,by rw[hr];simp⟩
theorem region_E (S:World→Prop) (X:Nat→Bool) {id:Nat} {a:Act} {w:World} (hm:P.follows .mixedOrders=true) (hS:S w.drew)
  (h:S w.drew→AnyE P .any ops Q S X ops.size (Array.replicate ops.size false) a w.drew):(Code.region id ops true).wp P Q a w:=
 wp_region_any hm (any_of_anyE _ _ _ _ (h hS))
end
end Go.Proofs.YtaijafjfafbcfaaGreat
