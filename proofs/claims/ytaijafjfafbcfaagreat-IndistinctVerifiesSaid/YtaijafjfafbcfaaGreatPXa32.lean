/- Part of the proof that the laws answer true for every input. -/
import Derived.Test.YtaijafjfafbcfaaGreatPXa31
import Derived.Test.YtaijafjfafbcfaaGreatPXa00
import Derived.Test.YtaijafjfafbcfaaGreatPXa01
import Derived.Lib.Hide
import Derived.Deep.OwnRows
set_option linter.unusedSimpArgs false
set_option linter.unnecessarySimpa false
set_option linter.unusedVariables false
set_option maxRecDepth 100000
set_option maxHeartbeats 40000000
namespace Go.Proofs.YtaijafjfafbcfaaGreat
def fvw (s:SysF) (e q:Nat):Int:=if oblB s e q=true then nth (finL s e) q else -1
def fvL (s:SysF) (e:Nat):List Int:=(List.range s.N).map (fvw s e)
theorem fvL_len (s:SysF) (e:Nat):(fvL s e).length=s.N:=by simp[fvL]
theorem fvL_at (s:SysF) (e:Nat) {q:Nat} (h:q<s.N):nth (fvL s e) q=fvw s e q:=by simp[fvL,nth,h]
theorem fvw_nn {s:SysF} (hg:GoodS s s.N s.K) {e q:Nat} (he:e<s.ex.length) (hq:q<s.N):0≤fvw s e q↔oblB s e q=true:=by
 obtain ⟨z,hz,_⟩:=(hg.fin he).2 q hq
 unfold fvw
 split
 ·rename_i h;rw[hz];constructor
  ·intro _;exact h
  ·intro _;omega
 ·rename_i h;constructor
  ·intro h0;omega
  ·intro h0;exact absurd h0 h
def lkB (s:SysF) (q e f:Nat):Bool:=decide (0≤fvw s e q)&&decide (fvw s e q=fvw s f q)
theorem lkB_iff {s:SysF} {q e f:Nat}:lkB s q e f=true↔0≤fvw s e q∧fvw s e q=fvw s f q:=by
 unfold lkB;rw[Bool.and_eq_true,decide_eq_true_iff,decide_eq_true_iff]
theorem lkB_symm {s:SysF} {q e f:Nat} (h:lkB s q e f=true):lkB s q f e=true:=by
 rw[lkB_iff]at h ⊢;omega
theorem lkB_comm (s:SysF) (q e f:Nat):lkB s q e f=lkB s q f e:=by
 rw[Bool.eq_iff_iff];exact ⟨lkB_symm,lkB_symm⟩
theorem lkB_trans {s:SysF} {q e f g:Nat} (h:lkB s q e f=true) (h':lkB s q f g=true):lkB s q e g=true:=by
 rw[lkB_iff]at h h' ⊢;omega
theorem lkB_ref {s:SysF} (hg:GoodS s s.N s.K) {q e f:Nat} (he:e<s.ex.length) (hf:f<s.ex.length) (hq:q<s.N):
  lkB s q e f=(oblB s e q&&(oblB s f q&&decide (nth (finL s e) q=nth (finL s f) q))):=by
 rw[Bool.eq_iff_iff,lkB_iff,Bool.and_eq_true,Bool.and_eq_true,decide_eq_true_iff]
 have h1:=fvw_nn hg he hq
 have h2:=fvw_nn hg hf hq
 constructor
 ·rintro ⟨a,b⟩
  have o1:=h1.1 a
  have o2:=h2.1 (by omega)
  refine ⟨o1,o2,?_⟩
  unfold fvw at b
  rw[if_pos o1,if_pos o2]at b
  exact b
 ·rintro ⟨o1,o2,b⟩
  refine ⟨h1.2 o1,?_⟩
  unfold fvw
  rw[if_pos o1,if_pos o2];exact b
def setTo (b:Nat→Bool):Nat→Nat
 | 0=>0
 | k+1=>if b k then setTo b k|||2 ^ k else setTo b k
theorem testBit_setTo (b:Nat→Bool) (i:Nat):∀n,(setTo b n).testBit i=(decide (i<n)&&b i)
 | 0=>by simp[setTo]
 | n+1=>by
  unfold setTo
  by_cases e:i=n
  ·subst e
   cases h:b i with
   | true=>simp[Nat.testBit_or,Nat.testBit_two_pow]
   | false=>simp[testBit_setTo b i i]
  ·have h1:decide (i<n+1)=decide (i<n):=by simp;omega
   rw[h1,←testBit_setTo b i n]
   split
   ·rw[Nat.testBit_or,Nat.testBit_two_pow]
    have:decide (n=i)=false:=decide_eq_false (fun h=>e h.symm)
    rw[this,Bool.or_false]
   ·rfl
theorem setTo_lt (b:Nat→Bool) (n:Nat):setTo b n<2 ^ n:=by
 apply Nat.lt_pow_two_of_testBit
 intro i hi
 rw[testBit_setTo]
 have:decide (i<n)=false:=decide_eq_false (by omega)
 rw[this];rfl
theorem setTo_zero {b:Nat→Bool} {n:Nat}:setTo b n=0↔∀i,i<n→b i=false:=by
 constructor
 ·intro h i hi
  have:=testBit_setTo b i n
  rw[h,Nat.zero_testBit]at this
  simpa[hi] using this.symm
 ·intro h
  apply Nat.eq_of_testBit_eq
  intro i
  rw[testBit_setTo,Nat.zero_testBit]
  by_cases hi:i<n
  ·rw[h i hi];simp
  ·simp[hi]
def byN (s:SysF) (e f:Nat):Nat:=setTo (fun q=>lkB s q e f) s.N
theorem byN_bit (s:SysF) (e f q:Nat):(byN s e f).testBit q=(decide (q<s.N)&&lkB s q e f):=testBit_setTo _ _ _
theorem byN_comm (s:SysF) (e f:Nat):byN s e f=byN s f e:=by
 apply Nat.eq_of_testBit_eq
 intro i
 rw[byN_bit,byN_bit,lkB_comm]
theorem byN_ne {s:SysF} {e f:Nat}:byN s e f≠0↔∃q,q<s.N∧lkB s q e f=true:=by
 constructor
 ·intro h
  apply Classical.byContradiction
  intro hn
  refine h (setTo_zero.2 fun q hq=>?_)
  cases hl:lkB s q e f with
  | false=>rfl
  | true=>exact absurd ⟨q,hq,hl⟩ hn
 ·rintro ⟨q,hq,hl⟩ h
  have:=setTo_zero.1 h q hq
  rw[hl]at this;cases this
def adjB (s:SysF) (e f:Nat):Bool:= !(byN s e f==0)&& !(e==f)
theorem adjB_iff {s:SysF} {e f:Nat}:adjB s e f=true↔byN s e f≠0∧e≠f:=by
 unfold adjB;simp
theorem adjB_comm (s:SysF) (e f:Nat):adjB s e f=adjB s f e:=by
 rw[Bool.eq_iff_iff,adjB_iff,adjB_iff,byN_comm]
 constructor<;>rintro ⟨a,b⟩<;>exact ⟨a,fun h=>b h.symm⟩
def stpB (s:SysF) (f:Nat):Nat→Nat→Bool
 | 0,e=>e==f
 | d+1,e=>(List.range s.ex.length).any fun g=>adjB s e g&&stpB s f d g
theorem stp_zero {s:SysF} {f e:Nat}:stpB s f 0 e=true↔e=f:=by simp[stpB]
theorem stp_succ {s:SysF} {f e d:Nat}:stpB s f (d+1) e=true↔∃g,g<s.ex.length∧adjB s e g=true∧stpB s f d g=true:=by
 rw[show stpB s f (d+1) e=(List.range s.ex.length).any fun g=>adjB s e g&&stpB s f d g from rfl]
 simp only[List.any_eq_true,List.mem_range,Bool.and_eq_true]
theorem inj_le:∀(n m:Nat) (f:Nat→Nat),(∀i,i<m→f i<n)→(∀i j,i<m→j<m→f i=f j→i=j)→m≤n
 | 0,m,f,h,_=>by
  apply Decidable.byContradiction
  intro hm
  have:=h 0 (by omega)
  omega
 | n+1,m,f,h,hi=>by
  by_cases hx:∃k,k<m∧f k=n
  ·obtain ⟨k,hk,hkn⟩:=hx
   have:=inj_le n (m - 1) (fun i=>if i<k then f i else f (i+1)) (fun i him=>by
    split
    ·rename_i h1
     have h2:=h i (by omega)
     have:f i≠n:=fun e=>by have:=hi i k (by omega) hk (by omega);omega
     omega
    ·rename_i h1
     have h2:=h (i+1) (by omega)
     have:f (i+1)≠n:=fun e=>by have:=hi (i+1) k (by omega) hk (by omega);omega
     omega) (fun i j him hjm e=>by
    split at e<;>split at e
    ·exact hi i j (by omega) (by omega) e
    ·have:=hi i (j+1) (by omega) (by omega) e;omega
    ·have:=hi (i+1) j (by omega) (by omega) e;omega
    ·have:=hi (i+1) (j+1) (by omega) (by omega) e;omega)
   omega
  ·have:=inj_le n m f (fun i him=>by
    have h1:=h i him
    have:f i≠n:=fun e=>hx ⟨i,him,e⟩
    omega) hi
   omega
def Lst (s:SysF) (f d e:Nat):Prop:=stpB s f d e=true∧∀k,k<d→stpB s f k e=false
theorem lst_of {s:SysF} {f e:Nat}:∀{d:Nat},stpB s f d e=true→∃k,k≤d∧Lst s f k e:=by
 intro d
 induction d using Nat.strongRecOn with
 | ind d ih=>
  intro h
  by_cases hx:∃k,k<d∧stpB s f k e=true
  ·obtain ⟨k,hk,h1⟩:=hx
   obtain ⟨j,hj,h2⟩:=ih k hk h1
   exact ⟨j,by omega,h2⟩
  ·refine ⟨d,Nat.le_refl _,h,fun k hk=>?_⟩
   cases e1:stpB s f k e with
   | false=>rfl
   | true=>exact absurd ⟨k,hk,e1⟩ hx
theorem lst_uniq {s:SysF} {f d k e:Nat} (h:Lst s f d e) (h':Lst s f k e):d=k:=by
 rcases Nat.lt_trichotomy d k with h1 | h1 | h1
 ·have:=h'.2 d h1;rw[h.1]at this;cases this
 ·exact h1
 ·have:=h.2 k h1;rw[h'.1]at this;cases this
theorem lst_prev {s:SysF} {f d e:Nat} (h:Lst s f (d+1) e):∃g,g<s.ex.length∧adjB s e g=true∧Lst s f d g:=by
 obtain ⟨g,hg,h1,h2⟩:=stp_succ.1 h.1
 refine ⟨g,hg,h1,h2,fun k hk=>?_⟩
 cases e1:stpB s f k g with
 | false=>rfl
 | true=>
  have:=h.2 (k+1) (by omega)
  rw[stp_succ.2 ⟨g,hg,h1,e1⟩]at this
  cases this
theorem lst_down {s:SysF} {f:Nat}:∀{d e:Nat},e<s.ex.length→Lst s f d e→∀k,k≤d→∃g,g<s.ex.length∧Lst s f k g
 | 0,e,he,h,k,hk=>by
  obtain rfl:k=0:=by omega
  exact ⟨e,he,h⟩
 | d+1,e,he,h,k,hk=>by
  by_cases e1:k=d+1
  ·subst e1;exact ⟨e,he,h⟩
  ·obtain ⟨g,hg,_,h2⟩:=lst_prev h
   exact lst_down hg h2 k (by omega)
theorem lst_lt {s:SysF} {f d e:Nat} (he:e<s.ex.length) (h:Lst s f d e):d<s.ex.length:=by
 have hd:=fun k=>lst_down he h k
 have:=inj_le s.ex.length (d+1) (fun k=>if hk:k≤d then (hd k hk).choose else 0) (fun i hi=>by
  rw[dif_pos (show i≤d by omega)]
  exact (hd i (by omega)).choose_spec.1) (fun i j hi hj e1=>by
  rw[dif_pos (show i≤d by omega),dif_pos (show j≤d by omega)]at e1
  have h1:=(hd i (by omega)).choose_spec.2
  have h2:=(hd j (by omega)).choose_spec.2
  rw[e1]at h1
  exact lst_uniq h1 h2)
 omega
def dstV (s:SysF) (f e:Nat):Int:=minT (fun d=>stpB s f d e) 0 s.ex.length
theorem dst_spec {s:SysF} (f:Nat) {e:Nat} (he:e<s.ex.length):(dstV s f e= -1∧∀d,stpB s f d e=false)∨∃d:Nat,dstV s f e=d∧Lst s f d e:=by
 have hs:∀n k,(minT (fun d=>stpB s f d e) k n= -1∧∀i,k≤i→i<k+n→stpB s f i e=false)∨∃t:Nat,minT (fun d=>stpB s f d e) k n=t∧k≤t∧t<k+n∧stpB s f t e=true∧∀i,k≤i→i<t→stpB s f i e=false:=by
  intro n
  induction n with
  | zero=>intro k;exact .inl ⟨rfl,fun i h1 h2=>by omega⟩
  | succ n ih=>
   intro k
   rw[show minT (fun d=>stpB s f d e) k (n+1)=if stpB s f k e then (k:Int) else minT (fun d=>stpB s f d e) (k+1) n from rfl]
   cases h:stpB s f k e with
   | true=>rw[if_pos rfl];exact .inr ⟨k,rfl,Nat.le_refl _,by omega,h,fun i h1 h2=>by omega⟩
   | false=>
    rw[if_neg (by simp)]
    rcases ih (k+1) with ⟨h1,h2⟩ | ⟨t,h1,h2,h3,h4,h5⟩
    ·refine .inl ⟨h1,fun i h3 h4=>?_⟩
     by_cases e1:i=k
     ·subst e1;exact h
     ·exact h2 i (by omega) (by omega)
    ·refine .inr ⟨t,h1,by omega,by omega,h4,fun i h6 h7=>?_⟩
     by_cases e1:i=k
     ·subst e1;exact h
     ·exact h5 i (by omega) (by omega)
 rcases hs s.ex.length 0 with ⟨h1,h2⟩ | ⟨t,h1,_,_,h4,h5⟩
 ·refine .inl ⟨h1,fun d=>?_⟩
  cases hd:stpB s f d e with
  | false=>rfl
  | true=>
   obtain ⟨k,_,hl⟩:=lst_of hd
   have h3:=lst_lt he hl
   have:=h2 k (by omega) (by omega)
   rw[hl.1]at this;cases this
 ·exact .inr ⟨t,h1,h4,fun i hi=>h5 i (by omega) hi⟩
theorem dst_lst {s:SysF} {f d e:Nat} (he:e<s.ex.length) (h:Lst s f d e):dstV s f e=d:=by
 rcases dst_spec f he with ⟨_,h1⟩ | ⟨k,h1,h2⟩
 ·have:=h1 d;rw[h.1]at this;cases this
 ·rw[h1,lst_uniq h2 h]
theorem dst_self (s:SysF) {f:Nat} (hf:f<s.ex.length):dstV s f f=0:=dst_lst (d:=0) hf ⟨stp_zero.2 rfl,fun k hk=>absurd hk (by omega)⟩
theorem dst_zero {s:SysF} {f e:Nat} (he:e<s.ex.length) (h:dstV s f e=0):e=f:=by
 rcases dst_spec f he with ⟨h1,_⟩ | ⟨k,h1,h2⟩
 ·omega
 ·obtain rfl:k=0:=by omega
  exact stp_zero.1 h2.1
theorem dst_bound {s:SysF} (f:Nat) {e:Nat} (he:e<s.ex.length): -1≤dstV s f e∧dstV s f e<s.ex.length:=by
 rcases dst_spec f he with ⟨h1,_⟩ | ⟨k,h1,h2⟩
 ·omega
 ·have:=lst_lt he h2;omega
theorem dst_adj {s:SysF} {f e g:Nat} (he:e<s.ex.length) (hg:g<s.ex.length) (h:adjB s e g=true) (h0:0≤dstV s f g):0≤dstV s f e∧dstV s f e≤dstV s f g+1:=by
 rcases dst_spec f hg with ⟨a,_⟩ | ⟨k,a,b⟩
 ·omega
 ·obtain ⟨m,hm,hl⟩:=lst_of (stp_succ.2 ⟨g,hg,h,b.1⟩)
  have:=dst_lst he hl
  omega
theorem dst_prev {s:SysF} {f e:Nat} (he:e<s.ex.length) (h:0<dstV s f e):∃g,g<s.ex.length∧adjB s e g=true∧dstV s f g=dstV s f e - 1:=by
 rcases dst_spec f he with ⟨a,_⟩ | ⟨k,a,b⟩
 ·omega
 ·obtain ⟨j,rfl⟩:∃j,k=j+1:=⟨k - 1,by omega⟩
  obtain ⟨g,hg,h1,h2⟩:=lst_prev b
  exact ⟨g,hg,h1,by rw[dst_lst hg h2,a];omega⟩
end Go.Proofs.YtaijafjfafbcfaaGreat
namespace Go.Proofs.YtaijafjfafbcfaaGreat
theorem nth_set' {l:List Int} {k i:Nat} {x:Int} (hk:k<l.length):nth (l.set k x) i=if i=k then x else nth l i:=by
 unfold nth
 rw[List.getD_eq_getElem?_getD,List.getD_eq_getElem?_getD,List.getElem?_set]
 by_cases e:k=i
 ·subst e;rw[if_pos rfl,if_pos hk,if_pos rfl];rfl
 ·rw[if_neg e,if_neg (fun h=>e h.symm)]
structure BfsIn (s:SysF) (f x j:Nat) (out:List Int) (Q:List Nat):Prop where
 len:out.length=s.ex.length
 val:∀e,e<s.ex.length→nth out e= -1∨(0≤dstV s f e∧nth out e=dstV s f e)
 qin:∀y∈Q,y<s.ex.length∧0≤nth out y
 srt:∃A B,Q=x::(A++B)∧(∀y∈A,dstV s f y=dstV s f x)∧(∀y∈B,dstV s f y=dstV s f x+1)
 done:∀e,e<s.ex.length→0≤nth out e→e∉Q→∀g,g<s.ex.length→adjB s e g=true→0≤nth out g
 low:∀e,e<s.ex.length→0≤dstV s f e→dstV s f e≤dstV s f x→0≤nth out e
 prt:∀g,g<j→adjB s x g=true→0≤nth out g
 home:0≤nth out f
theorem BfsIn.head {s:SysF} {f x j:Nat} {out:List Int} {Q:List Nat} (h:BfsIn s f x j out Q):x<s.ex.length∧nth out x=dstV s f x∧0≤dstV s f x:=by
 obtain ⟨A,B,e,_⟩:=h.srt
 obtain ⟨h1,h2⟩:=h.qin x (by rw[e];simp)
 rcases h.val x h1 with h3 | h3
 ·omega
 ·exact ⟨h1,h3.2,h3.1⟩
theorem BfsIn.skip {s:SysF} {f x j:Nat} {out:List Int} {Q:List Nat} (h:BfsIn s f x j out Q) (hs:adjB s x j=false∨0≤nth out j):BfsIn s f x (j+1) out Q:=
 ⟨h.len,h.val,h.qin,h.srt,h.done,h.low,fun g hg ha=>by
  by_cases e:g=j
  ·subst e
   rcases hs with h1 | h1
   ·rw[h1]at ha;cases ha
   ·exact h1
  ·exact h.prt g (by omega) ha,h.home⟩
theorem BfsIn.push {s:SysF} {f x j:Nat} {out:List Int} {Q:List Nat} (h:BfsIn s f x j out Q) (hf:f<s.ex.length) (hj:j<s.ex.length) (ha:adjB s x j=true) (h0:nth out j<0):
  BfsIn s f x (j+1) (out.set j (nth out x+1)) (Q++[j]):=by
 obtain ⟨hx,hxo,hx0⟩:=h.head
 have hlen:=h.len
 have hset:=fun i=>nth_set' (l:=out) (k:=j) (i:=i) (x:=nth out x+1) (by omega)
 have hd:=dst_adj (f:=f) hj hx (by rw[adjB_comm];exact ha) hx0
 have hdj:dstV s f j=dstV s f x+1:=by
  by_cases e:dstV s f j≤dstV s f x
  ·have:=h.low j hj hd.1 e;omega
  ·omega
 have mono:∀i,0≤nth out i→0≤nth (out.set j (nth out x+1)) i:=fun i hi=>by
  rw[hset]
  split
  ·omega
  ·exact hi
 refine ⟨by rw[List.length_set];exact hlen,fun e he=>?_,fun y hy=>?_,?_,fun e he h1 h2 g hg h3=>?_,fun e he h1 h2=>mono e (h.low e he h1 h2),fun g hg h1=>?_,mono f h.home⟩
 ·rw[hset]
  by_cases ej:e=j
  ·subst ej;rw[if_pos rfl];right;omega
  ·rw[if_neg ej];exact h.val e he
 ·rcases List.mem_append.1 hy with hy | hy
  ·obtain ⟨a,b⟩:=h.qin y hy
   exact ⟨a,mono y b⟩
  ·rw[List.mem_singleton.1 hy]
   refine ⟨hj,?_⟩
   rw[hset,if_pos rfl];omega
 ·obtain ⟨A,B,e,h1,h2⟩:=h.srt
  refine ⟨A,B++[j],by rw[e];simp,h1,fun y hy=>?_⟩
  rcases List.mem_append.1 hy with hy | hy
  ·exact h2 y hy
  ·rw[List.mem_singleton.1 hy];exact hdj
 ·rw[hset]at h1
  have hej:e≠j:=fun e1=>h2 (by rw[e1];simp)
  rw[if_neg hej]at h1
  exact mono g (h.done e he h1 (fun hm=>h2 (List.mem_append_left _ hm)) g hg h3)
 ·by_cases e:g=j
  ·subst e;rw[hset,if_pos rfl];omega
  ·exact mono g (h.prt g (by omega) h1)
def Far (s:SysF) (f:Nat) (out:List Int):Prop:=out.length=s.ex.length∧∀e,e<s.ex.length→nth out e=dstV s f e
theorem BfsIn.pop {s:SysF} {f x:Nat} {out:List Int} {R:List Nat} (h:BfsIn s f x s.ex.length out (x::R)):(R=[]∧Far s f out)∨∃y R',R=y::R'∧BfsIn s f y 0 out R:=by
 obtain ⟨hx,hxo,hx0⟩:=h.head
 have hdone:∀e,e<s.ex.length→0≤nth out e→e∉R→∀g,g<s.ex.length→adjB s e g=true→0≤nth out g:=fun e he h1 h2 g hg h3=>by
  by_cases ex:e=x
  ·subst ex;exact h.prt g hg h3
  ·exact h.done e he h1 (fun hm=>by rcases List.mem_cons.1 hm with hm | hm;exact ex hm;exact h2 hm) g hg h3
 cases R with
 | nil=>
  left
  refine ⟨rfl,h.len,?_⟩
  have key:∀(k:Nat) e,e<s.ex.length→dstV s f e=k→0≤nth out e:=by
   intro k
   induction k with
   | zero=>
    intro e he h1
    have:=dst_zero he h1
    subst this
    exact h.home
   | succ k ih=>
    intro e he h1
    obtain ⟨g,hg,h2,h3⟩:=dst_prev (f:=f) he (by omega)
    have h4:=ih g hg (by omega)
    exact hdone g hg h4 (by simp) e he (by rw[adjB_comm];exact h2)
  intro e he
  rcases h.val e he with h1 | h1
  ·have hb:=dst_bound f he
   by_cases h0:0≤dstV s f e
   ·have:=key (dstV s f e).toNat e he (by omega);omega
   ·omega
  ·exact h1.2
 | cons y R'=>
  right
  refine ⟨y,R',rfl,?_⟩
  obtain ⟨A,B,e,hA,hB⟩:=h.srt
  have e2:y::R'=A++B:=by injection e
  have hyin:y∈A++B:=by rw[←e2];simp
  have hq:∀z∈y::R',z<s.ex.length∧0≤nth out z:=fun z hz=>h.qin z (List.mem_cons_of_mem _ hz)
  cases A with
  | nil=>
   rw[List.nil_append]at e2 hyin
   have hy1:=hB y hyin
   refine ⟨h.len,h.val,hq,⟨R',[],by simp,fun z hz=>?_,fun z hz=>by cases hz⟩,hdone,fun a ha h0 h1=>?_,fun g hg=>by omega,h.home⟩
   ·rw[hy1];exact hB z (by rw[←e2];exact List.mem_cons_of_mem _ hz)
   ·by_cases h2:dstV s f a≤dstV s f x
    ·exact h.low a ha h0 h2
    ·obtain ⟨g,hg,h3,h4⟩:=dst_prev (f:=f) ha (by omega)
     have h5:=h.low g hg (by omega) (by omega)
     refine hdone g hg h5 (fun hm=>?_) a ha (by rw[adjB_comm];exact h3)
     have:=hB g (by rw[←e2];exact hm)
     omega
  | cons z A'=>
   have hzy:z=y:=by rw[List.cons_append]at e2;injection e2 with e3 e4;exact e3.symm
   subst hzy
   have hy1:=hA z (by simp)
   refine ⟨h.len,h.val,hq,⟨A',B,e2,fun a ha=>?_,fun a ha=>?_⟩,hdone,fun a ha h0 h1=>h.low a ha h0 (by omega),fun g hg=>by omega,h.home⟩
   ·rw[hy1];exact hA a (List.mem_cons_of_mem _ ha)
   ·rw[hy1];exact hB a ha
theorem bfs_start {s:SysF} {f:Nat} (hf:f<s.ex.length):BfsIn s f f 0 ((List.replicate s.ex.length (-1)).set f 0) [f]:=by
 have hset:=fun i=>nth_set' (l:=List.replicate s.ex.length (-1)) (k:=f) (i:=i) (x:=0) (by simp;omega)
 have hrep:∀i,i<s.ex.length→nth (List.replicate s.ex.length (-1)) i= -1:=fun i hi=>by simp[nth,hi]
 have h0:=dst_self s hf
 refine ⟨by simp,fun e he=>?_,fun y hy=>?_,⟨[],[],rfl,by simp,by simp⟩,fun e he h1 h2=>?_,fun e he h1 h2=>?_,fun g hg=>by omega,?_⟩
 ·rw[hset]
  by_cases e1:e=f
  ·subst e1;rw[if_pos rfl];right;omega
  ·rw[if_neg e1,hrep e he];exact .inl rfl
 ·rw[List.mem_singleton.1 hy]
  refine ⟨hf,?_⟩
  rw[hset,if_pos rfl];omega
 ·rw[hset]at h1
  by_cases e1:e=f
  ·exact absurd (by rw[e1];simp) h2
  ·rw[if_neg e1,hrep e he]at h1;omega
 ·have:=dst_zero he (f:=f) (by omega)
  rw[hset,if_pos this];omega
 ·rw[hset,if_pos rfl];omega
def levV (s:SysF) (f d e i:Nat):Int:=if 0≤dstV s f i∧(dstV s f i≤d∨(dstV s f i=d+1∧i<e)) then dstV s f i else -1
def levL (s:SysF) (f d e:Nat):List Int:=(List.range s.ex.length).map (levV s f d e)
theorem levL_len (s:SysF) (f d e:Nat):(levL s f d e).length=s.ex.length:=by simp[levL]
theorem levL_at (s:SysF) (f d e:Nat) {i:Nat} (h:i<s.ex.length):nth (levL s f d e) i=levV s f d e i:=by simp[levL,nth,h]
theorem list_ext' {a b:List Int} (hl:a.length=b.length) (h:∀i,i<a.length→nth a i=nth b i):a=b:=nth_ext hl h
theorem lev_next (s:SysF) (f d:Nat):levL s f d s.ex.length=levL s f (d+1) 0:=by
 refine list_ext' (by rw[levL_len,levL_len]) fun i hi=>?_
 rw[levL_len]at hi
 rw[levL_at _ _ _ _ hi,levL_at _ _ _ _ hi]
 unfold levV
 have:(0≤dstV s f i∧(dstV s f i≤(d:Int)∨(dstV s f i=(d:Int)+1∧i<s.ex.length)))↔(0≤dstV s f i∧(dstV s f i≤((d+1:Nat):Int)∨(dstV s f i=((d+1:Nat):Int)+1∧i<0))):=by omega
 by_cases h:0≤dstV s f i∧(dstV s f i≤(d:Int)∨(dstV s f i=(d:Int)+1∧i<s.ex.length))
 ·rw[if_pos h,if_pos (this.1 h)]
 ·rw[if_neg h,if_neg (fun h1=>h (this.2 h1))]
theorem lev_start {s:SysF} {f:Nat} (hf:f<s.ex.length):levL s f 0 0=(List.replicate s.ex.length (-1)).set f 0:=by
 refine list_ext' (by rw[levL_len];simp) fun i hi=>?_
 rw[levL_len]at hi
 rw[levL_at _ _ _ _ hi,nth_set' (by simp;omega)]
 have hrep:nth (List.replicate s.ex.length (-1)) i= -1:=by simp[nth,hi]
 have h0:=dst_self s hf
 unfold levV
 by_cases e:i=f
 ·subst e;rw[if_pos rfl,if_pos (by omega),h0]
 ·rw[if_neg e,hrep,if_neg]
  rintro ⟨h1,h2⟩
  exact e (dst_zero hi (by omega))
theorem lev_done (s:SysF) (f:Nat):Far s f (levL s f s.ex.length 0):=by
 refine ⟨levL_len _ _ _ _,fun e he=>?_⟩
 rw[levL_at _ _ _ _ he]
 have:=dst_bound f he
 unfold levV
 by_cases h:0≤dstV s f e
 ·rw[if_pos ⟨h,.inl (by omega)⟩]
 ·rw[if_neg (fun h1=>h h1.1)];omega
theorem lev_step {s:SysF} {f d e:Nat} (he:e<s.ex.length):
  (0≤levV s f d e e∧levL s f d (e+1)=levL s f d e)∨
  (levV s f d e e<0∧(∀g,g<s.ex.length→¬(levV s f d e g=d∧byN s e g≠0))∧levL s f d (e+1)=levL s f d e)∨
  (levV s f d e e<0∧(∃g,g<s.ex.length∧levV s f d e g=d∧byN s e g≠0)∧levL s f d (e+1)=(levL s f d e).set e (d+1)):=by
 have hat:∀i,i<s.ex.length→i≠e→levV s f d (e+1) i=levV s f d e i:=fun i hi hne=>by
  unfold levV
  by_cases h:0≤dstV s f i∧(dstV s f i≤(d:Int)∨(dstV s f i=(d:Int)+1∧i<e))
  ·rw[if_pos h,if_pos (by omega)]
  ·rw[if_neg h,if_neg (by omega)]
 have hsame:levV s f d (e+1) e=levV s f d e e→levL s f d (e+1)=levL s f d e:=fun hh=>by
  refine list_ext' (by rw[levL_len,levL_len]) fun i hi=>?_
  rw[levL_len]at hi
  rw[levL_at _ _ _ _ hi,levL_at _ _ _ _ hi]
  by_cases e1:i=e
  ·subst e1;exact hh
  ·exact hat i hi e1
 have hlev:∀g,levV s f d e g=d↔dstV s f g=d:=fun g=>by
  unfold levV
  split<;>omega
 have hb:=dst_bound f he
 by_cases h1:0≤dstV s f e∧dstV s f e≤d
 ·left
  have a:levV s f d e e=dstV s f e:=by unfold levV;rw[if_pos ⟨h1.1,.inl h1.2⟩]
  have b:levV s f d (e+1) e=dstV s f e:=by unfold levV;rw[if_pos ⟨h1.1,.inl h1.2⟩]
  exact ⟨by omega,hsame (by rw[a,b])⟩
 ·have a:levV s f d e e= -1:=by unfold levV;rw[if_neg (by omega)]
  by_cases h2:dstV s f e=d+1
  ·right;right
   obtain ⟨g,hg,h3,h4⟩:=dst_prev (f:=f) he (by omega)
   refine ⟨by omega,⟨g,hg,(hlev g).2 (by omega),(adjB_iff.1 h3).1⟩,?_⟩
   refine list_ext' (by rw[levL_len,List.length_set,levL_len]) fun i hi=>?_
   rw[levL_len]at hi
   rw[levL_at _ _ _ _ hi,nth_set' (by rw[levL_len];exact he),levL_at _ _ _ _ hi]
   by_cases e1:i=e
   ·subst e1
    rw[if_pos rfl]
    unfold levV
    rw[if_pos (by omega)];exact h2
   ·rw[if_neg e1];exact hat i hi e1
  ·right;left
   refine ⟨by omega,fun g hg h3=>?_,hsame ?_⟩
   ·have h4:=(hlev g).1 h3.1
    have hne:e≠g:=fun e1=>by subst e1;omega
    have:=dst_adj (f:=f) he hg (adjB_iff.2 ⟨h3.2,hne⟩) (by omega)
    omega
   ·rw[a];unfold levV;rw[if_neg (by omega)]
end Go.Proofs.YtaijafjfafbcfaaGreat
namespace Go.Proofs.YtaijafjfafbcfaaGreat
section
variable {K:Type} [DecidableEq K]
def addF (s:List K) (k:K):List K:=if k∈s then s else s++[k]
def firsts (l:List K):List K:=l.foldl addF []
def lab (l:List K) (k:K):Nat:=(firsts l).idxOf k
def labs (l:List K):List Int:=l.map fun k=>(lab l k:Int)
theorem firsts_snoc (l:List K) (x:K):firsts (l++[x])=addF (firsts l) x:=by simp[firsts,List.foldl_append]
theorem mem_addF {s:List K} {x k:K}:k∈addF s x↔k∈s∨k=x:=by
 unfold addF;split
 ·rename_i h;exact ⟨.inl,fun h'=>h'.elim id (fun e=>e▸h)⟩
 ·simp
theorem mem_foldl_addF (l:List K):∀s:List K,∀k,k∈l.foldl addF s↔k∈s∨k∈l:=by
 induction l with
 | nil=>simp
 | cons x l ih=>intro s k;simp[ih,mem_addF,or_assoc]
theorem mem_firsts {l:List K} {k:K}:k∈firsts l↔k∈l:=by simp[firsts,mem_foldl_addF]
theorem idxOf_snoc {s:List K} {x k:K} (h:k∈s):(s++[x]).idxOf k=s.idxOf k:=by rw[List.idxOf_append];simp[h]
theorem idxOf_new {s:List K} {x:K} (h:x∉s):(s++[x]).idxOf x=s.length:=by rw[List.idxOf_append];simp[h]
theorem lab_snoc {l:List K} {x k:K} (h:k∈l):lab (l++[x]) k=lab l k:=by
 unfold lab;rw[firsts_snoc];unfold addF;split
 ·rfl
 ·exact idxOf_snoc (mem_firsts.2 h)
theorem lab_new {l:List K} {x:K} (h:x∉l):lab (l++[x]) x=(firsts l).length:=by
 unfold lab;rw[firsts_snoc];unfold addF;rw[if_neg (fun h'=>h (mem_firsts.1 h'))]
 exact idxOf_new (fun h'=>h (mem_firsts.1 h'))
theorem firsts_old {l:List K} {x:K} (h:x∈l):firsts (l++[x])=firsts l:=by rw[firsts_snoc];unfold addF;rw[if_pos (mem_firsts.2 h)]
theorem firsts_new {l:List K} {x:K} (h:x∉l):firsts (l++[x])=firsts l++[x]:=by rw[firsts_snoc];unfold addF;rw[if_neg (fun h'=>h (mem_firsts.1 h'))]
theorem length_addF_le (s:List K) (x:K):(addF s x).length≤s.length+1:=by unfold addF;split<;>simp
theorem length_firsts_le (l:List K):(firsts l).length≤l.length:=by
 have:∀(l s:List K),(l.foldl addF s).length≤s.length+l.length:=by
  intro l
  induction l with
  | nil=>simp
  | cons x l ih=>intro s;have:=ih (addF s x);have:=length_addF_le s x;simp;omega
 simpa[firsts] using this l []
theorem labs_snoc (l:List K) (x:K):labs (l++[x])=labs l++[(lab (l++[x]) x:Int)]:=by
 unfold labs
 rw[List.map_append]
 congr 1
 apply List.map_congr_left
 intro k hk
 rw[lab_snoc hk]
@[simp] theorem length_labs (l:List K):(labs l).length=l.length:=by simp[labs]
theorem lab_lt {l:List K} {k:K} (h:k∈l):lab l k<(firsts l).length:=List.idxOf_lt_length_iff.2 (mem_firsts.2 h)
end
end Go.Proofs.YtaijafjfafbcfaaGreat
namespace Go.Proofs.YtaijafjfafbcfaaGreat
section
variable {K:Type} [DecidableEq K]
def labMap (l:List K) (k:K):Option Value:=if k∈l then some (.int .i64 (lab l k)) else none
def labRow (l:List K) (n:Nat):List Value:=(labs l).map (Value.int .i64)++List.replicate (n - l.length) (.int .i64 0)
theorem labMap_nil:labMap ([]:List K)=fun _=>none:=by funext k;simp[labMap]
theorem labMap_hit {l:List K} {x:K} (h:x∈l):labMap l x=some (.int .i64 (lab l x)):=by simp[labMap,h]
theorem labMap_miss {l:List K} {x:K} (h:x∉l):labMap l x=none:=by simp[labMap,h]
theorem labMap_old {l:List K} {x:K} (h:x∈l):labMap (l++[x])=labMap l:=by
 funext k
 unfold labMap
 by_cases hk:k∈l
 ·rw[if_pos hk,if_pos (by simp[hk]),lab_snoc hk]
 ·have:k≠x:=fun e=>hk (e▸h)
  rw[if_neg hk,if_neg (by simp[hk,this])]
theorem labMap_new {l:List K} {x:K} (h:x∉l):(fun z=>if z=x then some (Value.int .i64 ((firsts l).length:Int)) else labMap l z)=labMap (l++[x]):=by
 funext k
 by_cases e:k=x
 ·subst e
  simp[labMap,lab_new h]
 ·rw[if_neg e]
  unfold labMap
  by_cases hk:k∈l
  ·rw[if_pos hk,if_pos (by simp[hk]),lab_snoc hk]
  ·rw[if_neg hk,if_neg (by simp[hk,e])]
theorem labRow_nil (n:Nat):labRow ([]:List K) n=List.replicate n (.int .i64 0):=by simp[labRow,labs]
theorem labRow_full (l:List K):labRow l l.length=(labs l).map (Value.int .i64):=by simp[labRow]
theorem labRow_get {l:List K} {n:Nat} (h:l.length<n):(labRow l n)[l.length]? =some (.int .i64 0):=by
 unfold labRow
 rw[List.getElem?_append_right (by simp)]
 have e:n - l.length=(n - l.length - 1)+1:=by omega
 rw[e,List.replicate_succ]
 simp
theorem labRow_set {l:List K} {x:K} {n:Nat} (h:l.length<n):(labRow l n).set l.length (.int .i64 (lab (l++[x]) x))=labRow (l++[x]) n:=by
 unfold labRow
 rw[labs_snoc,List.map_append,List.set_append_right _ _ (by simp)]
 have e:n - l.length=(n - (l++[x]).length)+1:=by simp;omega
 rw[e,List.replicate_succ]
 simp
end
theorem labs_wf {K:Type} [DecidableEq K] {l:List K} (h:l.length≤65536):∀x∈labs l,WF x:=by
 intro x hx
 obtain ⟨k,hk,rfl⟩:=List.mem_map.1 hx
 have:=lab_lt hk
 have:=length_firsts_le l
 exact WF.small (by omega)
end Go.Proofs.YtaijafjfafbcfaaGreat
namespace Go.Proofs.YtaijafjfafbcfaaGreat
open Go.RowKit
theorem info3:(Tryz.prog.info? 3).map (fun i=>(i.zero,i.size,i.bytes))=some (some (.int .i64 0),1,8):=by kernel_rfl
theorem zero_int (w:World):(zeroValue 3).run Tryz.prog w=.ok (.int .i64 0) w:=by kernel_rfl
noncomputable def keyInt:KeyB Tryz.prog 3 Int:=intKey Tryz.underlying3
theorem labelsInt_calls {S:Nat→Prop} {w:World} {v:Value} {l:List Int} (h:Ints S w v l) (hlen:l.length≤65536):
  Calls Tryz.prog 54 #[v] w (Post w fun w' r=>Ints (fun b=>w.heap.size≤b) w' r (labs l)):=by
 obtain ⟨a,cap,rfl,ha,_,hm,hc,hf⟩:=h
 clear hm
 obtain ⟨i0,hi,hz0,hz1,hz2⟩:=info_parts info3
 have hix:=idx_one Tryz.underlying44 hi hz1 ha
 have hmm:=@run_makeMap Tryz.prog
 have hmk:=run_make_row' 44 3 (.int .i64 0) 8 Tryz.underlying44 info3 rfl .i64 .i64 l.length (by omega) (by omega)
 clear hi hz0 hz1 hz2
 go_enter Tryz.func54,Tryz.ntmps54
 go_wp2
 go_loopw [15] (fun i wr=>∃k:Nat,k≤l.length∧i=.int .i64 k∧Below w.heap.size w wr∧MapV keyInt wr w.heap.size (labMap (l.take k)) (firsts (l.take k)).length∧Row wr (w.heap.size+1) 3 (labRow (l.take k) l.length)) (fun i _=>l.length - (intOf i).toNat)
 case atStart=>
  refine ⟨0,by omega,rfl,((Below.refl _ _).alloc (Nat.le_refl _) _).alloc (by simp) _,?_,?_⟩
  ·rw[List.take_zero,labMap_nil]
   exact (MapV.made keyInt w).agree (Agree.of_grown (S:=fun b=>b=w.heap.size) (World.grownBy_alloc _ _ none) (by simp)) rfl
  ·rw[List.take_zero,labRow_nil]
   have:=Row.made (w.alloc (.map #[] 0)) (.int .i64 0) l.length 3
   simpa using this
 case round=>
  obtain ⟨k,hk,rfl,hb,hM,hR⟩:=hrel
  have hd:=cells_at ha hb hc
  by_cases hlt:k<l.length
  ·have q:=hix k hlt
   have p:=hd k hlt
   have hwf:WF (nth l k):=hf _ (nth_mem hlt)
   have HT:=Lib.hid (take_nth hlt)
   have hB:=hb.size
   have hs:=hM.lt
   have HK:=Lib.hid (show (l.take k).length=k by simp;omega)
   have hR0:=hR.cell (j:=k) (u:=.int .i64 0) (by have:=labRow_get (l:=l.take k) (n:=l.length) (by rw[HK.out];omega);rw[HK.out]at this;exact this)
   have hRf:=hR.free k
   have hFl:(firsts (l.take k)).length≤k:=by have:=length_firsts_le (l.take k);rw[HK.out]at this;exact this
   by_cases hin:nth l k∈l.take k
   ·have hhit:=Lib.hid (labMap_hit hin)
    clear hix hd hc
    go_wp2_with (at_lookup;refine wpList_hit rfl _ _ 107 rfl 3 Tryz.underlying107 (.int .i64 0) (zero_int _) rfl hM (nth l k) rfl hwf _ hhit.out ?_)
    go_roundw
    case rel=>
     have:=HK.out
     refine ⟨k+1,by omega,by go_num,hb.setCell (by simp) _,?_,?_⟩
     ·rw[HT.out,labMap_old hin,firsts_old hin]
      exact hM.agree (S:=fun b=>b=w.heap.size) (.of_grown (grownBy_setCell _ _ _ _) (by simp)) rfl
     ·rw[HT.out,←labRow_set (by rw[HK.out];exact hlt),HK.out,lab_snoc hin]
      exact hR.set k _
    case measure=>simp[intOf];omega
   ·have hmiss:=Lib.hid (labMap_miss hin)
    clear hix hd hc
    go_wp2_with (first
     | (at_lookup;refine wpList_miss rfl _ _ 107 rfl 3 Tryz.underlying107 (.int .i64 0) (zero_int _) rfl hM (nth l k) rfl hwf hmiss.out ?_)
     | (at_len;refine wpList_maplen rfl _ 107 rfl 3 Tryz.underlying107 rfl hM ?_)
     | (at_mapUpdate;refine wpList_upd rfl _ _ _ 107 rfl 3 Tryz.underlying107 rfl hM (by unfold maxLen;omega) (nth l k) rfl hwf (.int .i64 ((firsts (l.take k)).length:Int)) rfl ?_;intro w1 hM1 hg1;have p1:=(hR.grown hg1 (by simp)).cell (j:=k) (u:=.int .i64 0) (by have:=labRow_get (l:=l.take k) (n:=l.length) (by rw[HK.out];omega);rw[HK.out]at this;exact this);have p2:=(hR.grown hg1 (by simp)).free k))
    go_roundw
    case rel=>
     have:=HK.out
     refine ⟨k+1,by omega,by go_num,(hb.grown hg1 hB (fun j hj=>by cases hj;exact Nat.le_refl _)).setCell (by simp) _,?_,?_⟩
     ·rw[hmiss.out,labMap_new hin]at hM1
      rw[HT.out,firsts_new hin]
      simpa using hM1.agree (S:=fun b=>b=w.heap.size) (.of_grown (grownBy_setCell _ _ _ _) (by simp)) rfl
     ·rw[HT.out,←labRow_set (by rw[HK.out];exact hlt),HK.out,lab_new hin]
      exact (hR.grown hg1 (by simp)).set k _
    case measure=>simp[intOf];omega
  ·have hk':k=l.length:=by omega
   subst hk'
   go_wp2
   go_ret
   rw[List.take_length,labRow_full]at hR
   have:=hR.ints (by unfold maxLen;simp;omega) (labs_wf hlen)
   rw[length_labs]at this
   exact .mk hb (this.mono (by intro b hb;omega))
end Go.Proofs.YtaijafjfafbcfaaGreat
namespace Go.Proofs.YtaijafjfafbcfaaGreat
open Go.RowKit
def checkTo:List Int→Int→Int
 | [],_=>0
 | x::l,n=>if x<0 then 2 else if n<x then 14 else if x=n then checkTo l (n+1) else checkTo l n
def checkS (l:List Int):Int:=if 65536<l.length then 5 else checkTo l 0
theorem check_done {l:List Int} {k:Nat} {m:Int} (hb:¬65536<l.length) (h:checkTo (l.drop k) m=checkTo l 0) {c:Int} (hc:checkTo (l.drop k) m=c):Value.int .i64 c=Value.int .i64 (checkS l):=by
 simp[checkS,hb,←h,hc]
theorem check_calls {S:Nat→Prop} {w:World} {v:Value} {l:List Int} (h:Ints S w v l):
  Calls Tryz.prog 77 #[v] w (Post w fun _ r=>r=.int .i64 (checkS l)):=by
 obtain ⟨a,cap,rfl,ha,h1,h2,hc,hf⟩:=h
 unfold maxLen at h2
 obtain ⟨i0,hi,hz0,hz1,hz2⟩:=info_parts info_int
 have hix:=idx_one Tryz.underlying44 hi hz1 ha
 clear hi hz0 hz1 hz2
 go_enter Tryz.func77,Tryz.ntmps77
 by_cases hbig:65536<l.length
 ·go_wp2
  go_ret
  exact .same (by simp[checkS,hbig])
 ·go_wp2
  go_loop [3,11] (fun n i=>∃k:Nat,∃m:Int,k≤l.length∧0≤m∧m≤k∧i=.int .i64 k∧n=.int .i64 m∧checkTo (l.drop k) m=checkTo l 0) (fun _ i=>l.length - (intOf i).toNat)
  case atStart=>exact ⟨0,0,by omega,by omega,by omega,rfl,rfl,rfl⟩
  case round=>
   obtain ⟨k,m,hk,hm0,hmk,rfl,rfl,hrel⟩:=hrel
   have H:=Lib.hid hrel
   clear hrel
   by_cases hlt:k<l.length
   ·have HS:=Lib.hid (drop_nth hlt)
    go_wp2
    ·go_ret
     exact .same (check_done hbig H.out (by rw[HS.out,checkTo,if_pos ‹_›]))
    ·go_ret
     exact .same (check_done hbig H.out (by rw[HS.out,checkTo,if_neg (by omega),if_pos ‹_›]))
    ·go_round
     case rel=>exact ⟨k+1,m+1,by omega,by omega,by omega,by go_num,rfl,by rw[←H.out,HS.out,checkTo,if_neg (by omega),if_neg (by omega),if_pos (beq_iff_eq.1 ‹_›)]⟩
     case measure=>simp[intOf];omega
    ·go_round
     case rel=>exact ⟨k+1,m,by omega,by omega,by omega,by go_num,rfl,by rw[←H.out,HS.out,checkTo,if_neg (by omega),if_neg (by omega),if_neg (beq_eq_false_iff_ne.1 ‹_›)]⟩
     case measure=>simp[intOf];omega
   ·go_wp2
    go_ret
    exact .same (check_done hbig H.out (by rw[List.drop_of_length_le (by omega),checkTo]))
def bothS (a b:List Int):Int:=if checkS a≠0 then checkS a else if checkS b≠0 then checkS b else if a.length≠b.length then 15 else 0
theorem both_calls {S S':Nat→Prop} {w:World} {va vb:Value} {a b:List Int} (ha:Ints S w va a) (hb:Ints S' w vb b):
  Calls Tryz.prog 52 #[va,vb] w (Post w fun _ r=>r=.int .i64 (bothS a b)):=by
 have ka:=ha
 have kb:=hb
 obtain ⟨aa,capa,rfl,_⟩:=ka
 obtain ⟨ab,capb,rfl,_⟩:=kb
 go_enter Tryz.func52,Tryz.ntmps52
 go_wp2
 have hb0:Below w.heap.size w (w.alloc (.cells #[.slice aa a.length capa,.slice ab b.length capb] 44)):=(Below.refl _ _).alloc (Nat.le_refl _) _
 refine wp_loop_rounds 3 ?_
 rw[rounds_succ]
 go_wp2_with fail
 refine (check_calls (ha.ext hb0)).mono ?_
 rintro _ w1 ⟨_,rfl,hb1,rfl⟩
 have c1:w1.cell? ⟨w.heap.size,1,none⟩=some (.slice ab b.length capb):=by
  rw[hb1.cell (p:=⟨w.heap.size,1,none⟩) (by simp)];simp
 go_wp2_with fail
 ·go_ret
  exact .mk (ext_trans hb0 hb1) (int_eq (by simp_all [bothS]))
 ·rw[rounds_succ]
  go_wp2_with fail
  refine (check_calls ((hb.ext hb0).ext hb1)).mono ?_
  rintro _ w2 ⟨_,rfl,hb2,rfl⟩
  go_wp2_with fail
  ·go_ret
   exact .mk (ext_trans hb0 (ext_trans hb1 hb2)) (int_eq (by simp_all [bothS]))
  ·rw[rounds_succ]
   by_cases hl:a.length=b.length
   ·have e3:((a.length:Int) !=b.length)=false:=by simp[hl]
    have HL:=Lib.hid hl
    clear hl
    go_wp2_with fail
    go_ret
    exact .mk (ext_trans hb0 (ext_trans hb1 hb2)) (int_eq (by have:=HL.out;simp_all [bothS]))
   ·have e3:((a.length:Int) !=b.length)=true:=by simp;omega
    have HL:=Lib.hid hl
    clear hl
    go_wp2_with fail
    go_ret
    exact .mk (ext_trans hb0 (ext_trans hb1 hb2)) (int_eq (by have:=HL.out;simp_all [bothS]))
end Go.Proofs.YtaijafjfafbcfaaGreat
namespace Go.Proofs.YtaijafjfafbcfaaGreat
def numS (l:List Int):Int:=l.foldl (fun n x=>max n (x+1)) 0
theorem numS_snoc (l:List Int) (x:Int):numS (l++[x])=max (numS l) (x+1):=by simp[numS,List.foldl_append]
def Good (l:List Int):Prop:=l.length≤65536∧∀i,i<l.length→0≤nth l i∧nth l i≤numS (l.take i)
theorem good_aux (l:List Int):∀n k,n=l.length - k→k≤l.length→(checkTo (l.drop k) (numS (l.take k))=0↔∀i,k≤i→i<l.length→0≤nth l i∧nth l i≤numS (l.take i)):=by
 intro n
 induction n with
 | zero=>
  intro k hn hk
  have hk':k=l.length:=by omega
  subst hk'
  simp only[List.drop_length,checkTo,true_iff]
  intro i h1 h2;omega
 | succ n ih=>
  intro k hn hk
  have hlt:k<l.length:=by omega
  have ihk:=ih (k+1) (by omega) (by omega)
  rw[drop_nth hlt,checkTo]
  rw[take_nth hlt,numS_snoc]at ihk
  constructor
  ·intro h
   split at h
   ·cases h
   ·split at h
    ·cases h
    ·have hm:(if nth l k=numS (l.take k) then numS (l.take k)+1 else numS (l.take k))=max (numS (l.take k)) (nth l k+1):=by
      split<;>omega
     have h':checkTo (l.drop (k+1)) (max (numS (l.take k)) (nth l k+1))=0:=by
      rw[←hm]
      split at h<;>(rename_i hx;simpa[hx] using h)
     intro i h1 h2
     by_cases hik:i=k
     ·subst hik;omega
     ·exact ihk.1 h' i (by omega) h2
  ·intro h
   have hk0:=h k (Nat.le_refl _) hlt
   rw[if_neg (by omega),if_neg (by omega)]
   have hm:(if nth l k=numS (l.take k) then numS (l.take k)+1 else numS (l.take k))=max (numS (l.take k)) (nth l k+1):=by
    split<;>omega
   have h':=ihk.2 (fun i h1 h2=>h i (by omega) h2)
   rw[←hm]at h'
   split<;>(rename_i hx;simpa[hx] using h')
theorem checkS_good {l:List Int}:checkS l=0↔Good l:=by
 have:=good_aux l l.length 0 (by omega) (by omega)
 simp only[List.drop_zero,List.take_zero]at this
 unfold checkS Good
 split
 ·constructor
  ·intro h;cases h
  ·intro h;omega
 ·rw[show (0:Int)=numS [] from rfl]at *
  rw[this]
  constructor
  ·intro h;exact ⟨by omega,fun i hi=>h i (by omega) hi⟩
  ·intro h i _ hi;exact h.2 i hi
end Go.Proofs.YtaijafjfafbcfaaGreat
