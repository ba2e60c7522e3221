/- Part of the proof that the laws answer true for every input. -/
import Derived.Test.YtiabbjolepnjkaaGreatPDfC03
set_option linter.unusedSimpArgs false
set_option linter.unnecessarySimpa false
set_option linter.unusedVariables false
set_option maxRecDepth 100000
set_option maxHeartbeats 40000000
namespace Go.Proofs.YtiabbjolepnjkaaGreat
def pthsR (T:List (List Int)):Nat→Nat→List (List Int)
 | 0,v=>[[(v:Int)]]
 | m+1,v=>(List.range T.length).flatMap fun u=>if hrsB T u v then (pthsR T m u).map ((v:Int)::·) else []
theorem Zt {T:List (List Int)}:∀{m v:Nat} {p:List Int},p∈pthsR T m v→∃r,p=(v:Int)::r
 | 0,v,p,h=>⟨[],by simpa[pthsR] using h⟩
 | m+1,v,p,h=>by
  rw[show pthsR T (m+1) v=(List.range T.length).flatMap fun u=>if hrsB T u v then (pthsR T m u).map ((v:Int)::·) else [] from rfl]at h;obtain ⟨u,_,h1⟩:=List.mem_flatMap.1 h;split at h1
  ·obtain ⟨q,_,rfl⟩:=List.mem_map.1 h1;exact ⟨q,rfl⟩
  ·cases h1
theorem zee (g:Nat→List (List Int)) (P:List Int→Bool) (f:Nat→List Int) (h:∀y,(g y).find? P=if f y=[] then none else some (f y)):∀n k,((List.range' k n).flatMap g).find? P=if fstL f k n=[] then none else some (fstL f k n)
 | 0,k=>rfl
 | n+1,k=>by
  rw[List.range'_succ,List.flatMap_cons,List.find?_append,h k,show fstL f k (n+1)=if f k=[] then fstL f (k+1) n else f k from rfl];by_cases hk:f k=[]
  ·rw[if_pos hk,if_pos hk,Option.none_or];exact zee g P f h n (k+1)
  ·rw[if_neg hk,if_neg hk,Option.some_or,if_neg hk]
theorem zba {T:List (List Int)} {ch:List Int}:∀(m u:Nat) (o:Int),(pthsR T m u).find? (fun p=>outP T ch u o p.tail)=if pthT T ch m u o=[] then none else some (pthT T ch m u o)
 | 0,u,o=>by
  rw[show pthsR T 0 u=[[(u:Int)]] from rfl,show pthT T ch 0 u o=if o<0∨nth ch u≠nth ch o.toNat then [(u:Int)] else [] from rfl];have hb:outP T ch u o []=(decide (o<0)|| !decide (nth ch u=nth ch o.toNat)):=rfl;by_cases hc:o<0∨nth ch u≠nth ch o.toNat
  ·have:outP T ch u o []=true:=by rw[hb,Bool.or_eq_true,decide_eq_true_iff,Bool.not_eq_true',decide_eq_false_iff_not];exact hc
   rw[if_pos hc,if_neg (by simp)];simp[this]
  ·have:outP T ch u o []=false:=by
    cases h:outP T ch u o [] with
    | false=>rfl
    | true=>rw[hb,Bool.or_eq_true,decide_eq_true_iff,Bool.not_eq_true',decide_eq_false_iff_not]at h;exact absurd h hc
   rw[if_neg hc,if_pos rfl];simp[this]
 | m+1,u,o=>by
  have hg:∀y,((if hrsB T y u then (pthsR T m y).map ((u:Int)::·) else [])).find? (fun p=>outP T ch u o p.tail)=if (if 0≤o then (if hrsB T y u then (if pthT T ch m y (repT T y u o)=[] then [] else (u:Int)::pthT T ch m y (repT T y u o)) else []) else [])=[] then none else some (if 0≤o then (if hrsB T y u then (if pthT T ch m y (repT T y u o)=[] then [] else (u:Int)::pthT T ch m y (repT T y u o)) else []) else []):=fun y=>by
   cases hh:hrsB T y u with
   | false=>
    rw[if_neg (by simp),if_neg (show¬(false=true) by simp)];simp
   | true=>
    rw[if_pos rfl,if_pos (show true=true from rfl),List.find?_map];have ih:=zba (T:=T) (ch:=ch) m y (repT T y u o);by_cases h0:0≤o
    ·rw[if_pos h0];have hcong:(pthsR T m y).find? ((fun p=>outP T ch u o p.tail)∘fun x=>(u:Int)::x)=(pthsR T m y).find? (fun p=>outP T ch y (repT T y u o) p.tail):=by
      have hc:∀l:List (List Int),(∀p∈l,∃r,p=(y:Int)::r)→l.find? ((fun p=>outP T ch u o p.tail)∘fun x=>(u:Int)::x)=l.find? (fun p=>outP T ch y (repT T y u o) p.tail):=by
       intro l;induction l with
       | nil=>intro _;rfl
       | cons a l ihl=>
        intro hl;obtain ⟨r,rfl⟩:=hl a (by simp);have e1:((fun p=>outP T ch u o p.tail)∘fun x=>(u:Int)::x) ((y:Int)::r)=outP T ch y (repT T y u o) (((y:Int)::r).tail):=by
         show (decide (0≤o)&&(hrsB T (y:Int).toNat u&&outP T ch (y:Int).toNat (repT T (y:Int).toNat u o) r))=outP T ch y (repT T y u o) r;rw[Int.toNat_natCast,hh,decide_eq_true h0];rfl
        rw[List.find?_cons,List.find?_cons,e1,ihl fun p hp=>hl p (by simp[hp])]
      exact hc _ fun p hp=>Zt hp
     rw[hcong,ih];by_cases hp:pthT T ch m y (repT T y u o)=[]
     ·rw[if_pos hp,if_pos hp];rfl
     ·rw[if_neg hp,if_neg hp];rfl
    ·rw[if_neg h0,if_pos rfl];have hc:(pthsR T m y).find? ((fun p=>outP T ch u o p.tail)∘fun x=>(u:Int)::x)=none:=by
      rw[List.find?_eq_none];intro p hp;obtain ⟨r,rfl⟩:=Zt hp;show¬(decide (0≤o)&&(hrsB T (y:Int).toNat u&&outP T ch (y:Int).toNat (repT T (y:Int).toNat u o) r))=true;rw[decide_eq_false h0];simp
     rw[hc];rfl
  have hf:=zee (fun y=>if hrsB T y u then (pthsR T m y).map ((u:Int)::·) else []) (fun p=>outP T ch u o p.tail) _ hg T.length 0;rw[show pthsR T (m+1) u=(List.range T.length).flatMap fun y=>if hrsB T y u then (pthsR T m y).map ((u:Int)::·) else [] from rfl,List.range_eq_range',hf];have hpull:∀n k,fstL (fun y=>if 0≤o then (if hrsB T y u then (if pthT T ch m y (repT T y u o)=[] then [] else (u:Int)::pthT T ch m y (repT T y u o)) else []) else []) k n=if o<0 then [] else if fstL (fun y=>if hrsB T y u then pthT T ch m y (repT T y u o) else []) k n=[] then [] else (u:Int)::fstL (fun y=>if hrsB T y u then pthT T ch m y (repT T y u o) else []) k n:=by
   intro n;induction n with
   | zero=>intro k;simp[fstL]
   | succ n ih=>
    intro k;have h1:=ih (k+1);simp only[fstL];by_cases h0:o<0
    ·rw[if_pos h0]at h1 ⊢;rw[if_neg (show¬0≤o by omega),if_pos rfl,h1]
    ·rw[if_neg h0]at h1 ⊢;rw[if_pos (show 0≤o by omega),h1];cases hh:hrsB T k u with
     | false=>simp
     | true=>
      by_cases hp:pthT T ch m k (repT T k u o)=[]
      ·simp[hp]
      ·simp[hp]
  rw[hpull,show pthT T ch (m+1) u o=if o<0 then [] else if fstL (fun y=>if hrsB T y u then pthT T ch m y (repT T y u o) else []) 0 T.length=[] then [] else (u:Int)::fstL (fun y=>if hrsB T y u then pthT T ch m y (repT T y u o) else []) 0 T.length from rfl]
end Go.Proofs.YtiabbjolepnjkaaGreat
