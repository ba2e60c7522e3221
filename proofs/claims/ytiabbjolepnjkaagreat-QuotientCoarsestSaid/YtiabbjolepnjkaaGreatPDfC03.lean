/- Part of the proof that the laws answer true for every input. -/
import Derived.Test.YtiabbjolepnjkaaGreatPDfA24
import Derived.Test.YtiabbjolepnjkaaGreatPDfC01
import Derived.Test.YtiabbjolepnjkaaGreatPDfC02
set_option linter.unusedSimpArgs false
set_option linter.unnecessarySimpa false
set_option linter.unusedVariables false
set_option maxRecDepth 100000
set_option maxHeartbeats 40000000
namespace Go.Proofs.YtiabbjolepnjkaaGreat
def outP (T:List (List Int)) (ch:List Int):Nat→Int→List Int→Bool
 | x,o,[]=>decide (o<0)|| !decide (nth ch x=nth ch o.toNat)
 | x,o,y::r=>decide (0≤o)&&(hrsB T y.toNat x&&outP T ch y.toNat (repT T y.toNat x o) r)
def aprB (T:List (List Int)) (ch:List Int) (v w:Nat):List Int→Bool
 | []=>false
 | x::r=>if x=(w:Int) then outP T ch w v r else if x=(v:Int) then outP T ch v w r else false
theorem zdK {T:List (List Int)} {ch:List Int}:∀{m u:Nat} {o:Int},pthT T ch m u o≠[]→∃r,pthT T ch m u o=(u:Int)::r∧r.length=m∧outP T ch u o r=true∧∀x∈r,∃y:Nat,x=y∧y<T.length
 | 0,u,o,h=>by
  rw[show pthT T ch 0 u o=if o<0∨nth ch u≠nth ch o.toNat then [(u:Int)] else [] from rfl]at h ⊢;by_cases hc:o<0∨nth ch u≠nth ch o.toNat
  ·rw[if_pos hc];refine ⟨[],rfl,rfl,?_,fun x hx=>by cases hx⟩;show (decide (o<0)|| !decide (nth ch u=nth ch o.toNat))=true;rw[Bool.or_eq_true,decide_eq_true_iff,Bool.not_eq_true',decide_eq_false_iff_not];exact hc
  ·rw[if_neg hc]at h;exact absurd rfl h
 | m+1,u,o,h=>by
  rw[show pthT T ch (m+1) u o=if o<0 then [] else if fstL (fun y=>if hrsB T y u then pthT T ch m y (repT T y u o) else []) 0 T.length=[] then [] else (u:Int)::fstL (fun y=>if hrsB T y u then pthT T ch m y (repT T y u o) else []) 0 T.length from rfl]at h ⊢;by_cases h0:o<0
  ·rw[if_pos h0]at h;exact absurd rfl h
  ·rw[if_neg h0]at h ⊢;by_cases h1:fstL (fun y=>if hrsB T y u then pthT T ch m y (repT T y u o) else []) 0 T.length=[]
   ·rw[if_pos h1]at h;exact absurd rfl h
   ·rw[if_neg h1];have hfs:∀n k,fstL (fun y=>if hrsB T y u then pthT T ch m y (repT T y u o) else []) k n≠[]→∃y,k≤y∧y<k+n∧fstL (fun y=>if hrsB T y u then pthT T ch m y (repT T y u o) else []) k n=(if hrsB T y u then pthT T ch m y (repT T y u o) else []):=by
     intro n;induction n with
     | zero=>intro k hk;exact absurd rfl hk
     | succ n ih=>
      intro k hk;rw[show fstL (fun y=>if hrsB T y u then pthT T ch m y (repT T y u o) else []) k (n+1)=if (if hrsB T k u then pthT T ch m k (repT T k u o) else [])=[] then fstL (fun y=>if hrsB T y u then pthT T ch m y (repT T y u o) else []) (k+1) n else (if hrsB T k u then pthT T ch m k (repT T k u o) else []) from rfl]at hk ⊢;by_cases h2:(if hrsB T k u then pthT T ch m k (repT T k u o) else [])=[]
      ·rw[if_pos h2]at hk ⊢;obtain ⟨y,a,b,c⟩:=ih (k+1) hk;exact ⟨y,by omega,by omega,c⟩
      ·rw[if_neg h2];exact ⟨k,Nat.le_refl _,by omega,rfl⟩
    obtain ⟨y,_,hy,he⟩:=hfs T.length 0 h1;rw[he]at h1 ⊢;cases hh:hrsB T y u with
    | false=>rw[hh,if_neg (by simp)]at h1;exact absurd rfl h1
    | true=>
     rw[hh,if_pos rfl]at h1;obtain ⟨r,a,b,c,d⟩:=zdK h1;refine ⟨(y:Int)::r,by rw[if_pos rfl,a],by rw[List.length_cons,b],?_,fun x hx=>?_⟩
     ·show (decide (0≤o)&&(hrsB T (y:Int).toNat u&&outP T ch (y:Int).toNat (repT T (y:Int).toNat u o) r))=true;rw[Int.toNat_natCast,hh,c,decide_eq_true (by omega)];rfl
     ·rcases List.mem_cons.1 hx with e | hx
      ·exact ⟨y,e,by omega⟩
      ·exact d x hx
def disF (T:List (List Int)) (ch:List Int) (a b m:Nat):List Int:=if pthT T ch m a b=[] then pthT T ch m b a else pthT T ch m a b
def disL (T:List (List Int)) (ch:List Int) (K a b:Nat):List Int:=fstL (disF T ch a b) 0 (K+1)
theorem zdX {T:List (List Int)} {ch:List Int} {a b m:Nat}:disF T ch a b m=[]↔dsB T ch m a b=false∧dsB T ch m b a=false:=by
 unfold disF;by_cases h:pthT T ch m a b=[]
 ·rw[if_pos h,Xh];exact ⟨fun h2=>⟨Xh.1 h,h2⟩,fun h2=>h2.2⟩
 ·rw[if_neg h];exact ⟨fun h2=>absurd h2 h,fun h2=>absurd (Xh.2 h2.1) h⟩
theorem zaj {s:SysF} (hg:GoodS s s.N s.K) {ch:List Int} {v w:Nat} (hv:v<s.tab.length) (hw:w<s.tab.length) (hp:prcT s.tab v=prcT s.tab w) (hr:rndT s.tab v=rndT s.tab w):disL s.tab ch s.K v w=[]↔nth (quoL s ch) v=nth (quoL s ch) w:=by
 unfold disL;rw[Zz];constructor
 ·intro h;apply Classical.byContradiction;intro hne;obtain ⟨j,hj,hd⟩:=(zgU hg hv hw hp hr).1 hne;obtain ⟨h1,h2⟩:=zdX.1 (h j (by omega) (by omega));rcases hd with hd | hd
  ·rw[h1]at hd;cases hd
  ·rw[h2]at hd;cases hd
 ·intro h i _ hi;rw[zdX];constructor
  ·exact ZP hg.tab hg.nodup (xY hg ch) i v w hv hw h
  ·exact ZP hg.tab hg.nodup (xY hg ch) i w v hw hv h.symm
end Go.Proofs.YtiabbjolepnjkaaGreat
namespace Go.Proofs.YtiabbjolepnjkaaGreat
open Go.RowKit
attribute [local go_sem ↓] Go.wp_at_zero Go.wp_at_succ
def sizA (s:SysF) (ch:List Int):Int:=if ruleE s ch=0 then numS (quoL s ch) else 0
theorem xg {s:SysF} {ch:List Int} (hm:s.tab.length≤65536):Good (quoL s ch):=zbM (by rw[length_keys];exact hm)
def pairE (s:SysF) (ch:List Int) (v w:Int):Int:=if ruleE s ch=0 then (if v<0∨(s.tab.length:Int)≤v∨w<0∨(s.tab.length:Int)≤w then 6 else if prcT s.tab v.toNat=prcT s.tab w.toNat∧rndT s.tab v.toNat=rndT s.tab w.toNat then 0 else 22) else ruleE s ch
def inE (n:Nat) (l:List Int) (k:Nat):Int:=if nth l k<0∨(n:Int)≤nth l k then 6 else 0
def aprE (s:SysF) (ch:List Int) (v w:Int) (l:List Int):Int:=if pairE s ch v w=0 then (if l.length=0 then 16 else if 7<l.length then 5 else if firstE (inE s.tab.length l) l.length=0 then (if aprB s.tab ch v.toNat w.toNat l then 0 else 18) else firstE (inE s.tab.length l) l.length) else pairE s ch v w
end Go.Proofs.YtiabbjolepnjkaaGreat
