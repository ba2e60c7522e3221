/- Part of the proof that the laws answer true for every input. -/
import Derived.Test.YtiabbjolepnjkaaGreatPDfH01
set_option linter.unusedSimpArgs false
set_option linter.unnecessarySimpa false
set_option linter.unusedVariables false
set_option maxRecDepth 100000
set_option maxHeartbeats 40000000
namespace Go.Proofs.YtiabbjolepnjkaaGreat
theorem zd9 {T:List (List Int)} {ch:List Int} {v w:Nat} (h:v≠w) (r:List Int):aprB T ch v w ((v:Int)::r)=outP T ch v w r∧aprB T ch v w ((w:Int)::r)=outP T ch w v r:=by
 have h1:(v:Int)≠(w:Int):=by omega
 constructor
 ·show (if (v:Int)=(w:Int) then outP T ch w v r else if (v:Int)=(v:Int) then outP T ch v w r else false)=_;rw[if_neg h1,if_pos rfl]
 ·show (if (w:Int)=(w:Int) then outP T ch w v r else if (w:Int)=(v:Int) then outP T ch v w r else false)=_;rw[if_pos rfl]
theorem zh2 {T:List (List Int)} {ch:List Int} {v w:Nat} (h:v≠w) (m:Nat):
  (pthsR T m v).find? (aprB T ch v w)=(if pthT T ch m v w=[] then none else some (pthT T ch m v w))∧(pthsR T m w).find? (aprB T ch v w)=(if pthT T ch m w v=[] then none else some (pthT T ch m w v)):=by
 have hc:∀(x:Nat) (o:Int) (l:List (List Int)),(∀p∈l,∃r,p=(x:Int)::r)→(∀r,aprB T ch v w ((x:Int)::r)=outP T ch x o r)→l.find? (aprB T ch v w)=l.find? (fun p=>outP T ch x o p.tail):=by
  intro x o l;induction l with
  | nil=>intro _ _;rfl
  | cons a l ih=>
   intro hl ha;obtain ⟨r,rfl⟩:=hl a (by simp);rw[List.find?_cons,List.find?_cons,ha r,ih (fun p hp=>hl p (by simp[hp])) ha];rfl
 constructor
 ·rw[←zba m v w];exact hc v w _ (fun p hp=>Zt hp) fun r=>(zd9 h r).1
 ·rw[←zba m w v];exact hc w v _ (fun p hp=>Zt hp) fun r=>(zd9 h r).2
theorem zhV {T:List (List Int)} {ch:List Int} {v w:Nat} (h:v≠w) (l:List Int):aprB T ch v w l=aprB T ch w v l:=by
 cases l with
 | nil=>rfl
 | cons x r=>
  show (if x=(w:Int) then outP T ch w v r else if x=(v:Int) then outP T ch v w r else false)=(if x=(v:Int) then outP T ch v w r else if x=(w:Int) then outP T ch w v r else false);by_cases h1:x=(w:Int)
  ·rw[if_pos h1,if_neg (by omega),if_pos h1]
  ·rw[if_neg h1];by_cases h2:x=(v:Int)
   ·rw[if_pos h2,if_pos h2]
   ·rw[if_neg h2,if_neg h2,if_neg h1]
theorem zhB {T:List (List Int)} {ch:List Int} {v w:Nat} (h:v≠w) (m:Nat):(pthsR T m (min v w)++pthsR T m (max v w)).find? (aprB T ch v w)=if disF T ch (min v w) (max v w) m=[] then none else some (disF T ch (min v w) (max v w) m):=by
 have hne:min v w≠max v w:=by omega
 have hs:aprB T ch v w=aprB T ch (min v w) (max v w):=by
  funext l
  by_cases hl:v≤w
  ·rw[Nat.min_eq_left hl,Nat.max_eq_right hl]
  ·rw[Nat.min_eq_right (by omega),Nat.max_eq_left (by omega)];exact zhV h l
 obtain ⟨h1,h2⟩:=zh2 (T:=T) (ch:=ch) hne m;rw[hs,List.find?_append,h1,h2];unfold disF;by_cases h3:pthT T ch m (min v w) ((max v w:Nat):Int)=[]
 ·rw[if_pos h3,if_pos h3,Option.none_or]
 ·rw[if_neg h3,if_neg h3,if_neg h3];rfl
theorem zkg {T:List (List Int)} {ch:List Int} {K v w:Nat} (h:v≠w) (hv:v<T.length) (hw:w<T.length) (hd:disL T ch K (min v w) (max v w)≠[]):
  aprB T ch v w (disL T ch K (min v w) (max v w))=true∧(disL T ch K (min v w) (max v w)).length≤K+1∧0<(disL T ch K (min v w) (max v w)).length∧∀x∈disL T ch K (min v w) (max v w),∃y:Nat,x=y∧y<T.length:=by
 have hfs:∀(f:Nat→List Int) n k,fstL f k n≠[]→∃y,k≤y∧y<k+n∧fstL f k n=f y:=by
  intro f n;induction n with
  | zero=>intro k hk;exact absurd rfl hk
  | succ n ih=>
   intro k hk;rw[show fstL f k (n+1)=if f k=[] then fstL f (k+1) n else f k from rfl]at hk ⊢;by_cases h2:f k=[]
   ·rw[if_pos h2]at hk ⊢;obtain ⟨y,a,b,c⟩:=ih (k+1) hk;exact ⟨y,by omega,by omega,c⟩
   ·rw[if_neg h2];exact ⟨k,Nat.le_refl _,by omega,rfl⟩
 obtain ⟨m,_,hm,he⟩:=hfs _ _ _ hd;have he':disL T ch K (min v w) (max v w)=disF T ch (min v w) (max v w) m:=he;rw[he']at hd ⊢;have hf:=zhB (T:=T) (ch:=ch) h m;rw[if_neg hd]at hf;have h1:=List.find?_some hf;refine ⟨h1,?_⟩;have hpp:∀a b:Nat,a<T.length→pthT T ch m a b≠[]→(pthT T ch m a b).length≤K+1∧0<(pthT T ch m a b).length∧∀x∈pthT T ch m a b,∃y:Nat,x=y∧y<T.length:=fun a b ha hh=>by
  obtain ⟨r,e1,e2,_,e4⟩:=zdK hh;rw[e1];refine ⟨by rw[List.length_cons];omega,by simp,fun x hx=>?_⟩;rcases List.mem_cons.1 hx with e | hx
  ·exact ⟨a,e,ha⟩
  ·exact e4 x hx
 have hmin:min v w<T.length:=by omega
 have hmax:max v w<T.length:=by omega
 unfold disF at hd ⊢;by_cases h3:pthT T ch m (min v w) ((max v w:Nat):Int)=[]
 ·rw[if_pos h3]at hd ⊢;exact hpp _ _ hmax hd
 ·rw[if_neg h3];exact hpp _ _ hmin h3
end Go.Proofs.YtiabbjolepnjkaaGreat
