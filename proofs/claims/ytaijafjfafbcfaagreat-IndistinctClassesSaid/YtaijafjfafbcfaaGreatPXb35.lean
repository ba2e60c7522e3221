/- Part of the proof that the laws answer true for every input. -/
import Derived.Test.YtaijafjfafbcfaaGreatPXb34
import Derived.Test.YtaijafjfafbcfaaGreatPXb00
import Derived.Lib.Hide
set_option linter.unusedSimpArgs false
set_option linter.unnecessarySimpa false
set_option linter.unusedVariables false
set_option maxRecDepth 100000
set_option maxHeartbeats 40000000
namespace Go.Proofs.YtaijafjfafbcfaaGreat
def fvw (s:SysF) (e q:Nat):Int:=if oblB s e q=true then nth (finL s e) q else -1
def fvL (s:SysF) (e:Nat):List Int:=(List.range s.N).map (fvw s e)
theorem fvL_len (s:SysF) (e:Nat):(fvL s e).length=s.N:=by simp[fvL]
theorem fvL_at (s:SysF) (e:Nat) {q:Nat} (h:q<s.N):nth (fvL s e) q=fvw s e q:=by simp[fvL,nth,h]
theorem fvw_nn {s:SysF} (hg:GoodS s s.N s.K) {e q:Nat} (he:e<s.ex.length) (hq:q<s.N):0≤fvw s e q↔oblB s e q=true:=by
 obtain ⟨z,hz,_⟩:=(hg.fin he).2 q hq
 unfold fvw
 split
 ·rename_i h;rw[hz];constructor
  ·intro _;exact h
  ·intro _;omega
 ·rename_i h;constructor
  ·intro h0;omega
  ·intro h0;exact absurd h0 h
def lkB (s:SysF) (q e f:Nat):Bool:=decide (0≤fvw s e q)&&decide (fvw s e q=fvw s f q)
theorem lkB_iff {s:SysF} {q e f:Nat}:lkB s q e f=true↔0≤fvw s e q∧fvw s e q=fvw s f q:=by
 unfold lkB;rw[Bool.and_eq_true,decide_eq_true_iff,decide_eq_true_iff]
theorem lkB_symm {s:SysF} {q e f:Nat} (h:lkB s q e f=true):lkB s q f e=true:=by
 rw[lkB_iff]at h ⊢;omega
theorem lkB_comm (s:SysF) (q e f:Nat):lkB s q e f=lkB s q f e:=by
 rw[Bool.eq_iff_iff];exact ⟨lkB_symm,lkB_symm⟩
theorem lkB_trans {s:SysF} {q e f g:Nat} (h:lkB s q e f=true) (h':lkB s q f g=true):lkB s q e g=true:=by
 rw[lkB_iff]at h h' ⊢;omega
def setTo (b:Nat→Bool):Nat→Nat
 | 0=>0
 | k+1=>if b k then setTo b k|||2 ^ k else setTo b k
theorem testBit_setTo (b:Nat→Bool) (i:Nat):∀n,(setTo b n).testBit i=(decide (i<n)&&b i)
 | 0=>by simp[setTo]
 | n+1=>by
  unfold setTo
  by_cases e:i=n
  ·subst e
   cases h:b i with
   | true=>simp[Nat.testBit_or,Nat.testBit_two_pow]
   | false=>simp[testBit_setTo b i i]
  ·have h1:decide (i<n+1)=decide (i<n):=by simp;omega
   rw[h1,←testBit_setTo b i n]
   split
   ·rw[Nat.testBit_or,Nat.testBit_two_pow]
    have:decide (n=i)=false:=decide_eq_false (fun h=>e h.symm)
    rw[this,Bool.or_false]
   ·rfl
theorem setTo_lt (b:Nat→Bool) (n:Nat):setTo b n<2 ^ n:=by
 apply Nat.lt_pow_two_of_testBit
 intro i hi
 rw[testBit_setTo]
 have:decide (i<n)=false:=decide_eq_false (by omega)
 rw[this];rfl
theorem setTo_zero {b:Nat→Bool} {n:Nat}:setTo b n=0↔∀i,i<n→b i=false:=by
 constructor
 ·intro h i hi
  have:=testBit_setTo b i n
  rw[h,Nat.zero_testBit]at this
  simpa[hi] using this.symm
 ·intro h
  apply Nat.eq_of_testBit_eq
  intro i
  rw[testBit_setTo,Nat.zero_testBit]
  by_cases hi:i<n
  ·rw[h i hi];simp
  ·simp[hi]
def byN (s:SysF) (e f:Nat):Nat:=setTo (fun q=>lkB s q e f) s.N
theorem byN_bit (s:SysF) (e f q:Nat):(byN s e f).testBit q=(decide (q<s.N)&&lkB s q e f):=testBit_setTo _ _ _
theorem byN_comm (s:SysF) (e f:Nat):byN s e f=byN s f e:=by
 apply Nat.eq_of_testBit_eq
 intro i
 rw[byN_bit,byN_bit,lkB_comm]
theorem byN_ne {s:SysF} {e f:Nat}:byN s e f≠0↔∃q,q<s.N∧lkB s q e f=true:=by
 constructor
 ·intro h
  apply Classical.byContradiction
  intro hn
  refine h (setTo_zero.2 fun q hq=>?_)
  cases hl:lkB s q e f with
  | false=>rfl
  | true=>exact absurd ⟨q,hq,hl⟩ hn
 ·rintro ⟨q,hq,hl⟩ h
  have:=setTo_zero.1 h q hq
  rw[hl]at this;cases this
def adjB (s:SysF) (e f:Nat):Bool:= !(byN s e f==0)&& !(e==f)
theorem adjB_iff {s:SysF} {e f:Nat}:adjB s e f=true↔byN s e f≠0∧e≠f:=by
 unfold adjB;simp
theorem adjB_comm (s:SysF) (e f:Nat):adjB s e f=adjB s f e:=by
 rw[Bool.eq_iff_iff,adjB_iff,adjB_iff,byN_comm]
 constructor<;>rintro ⟨a,b⟩<;>exact ⟨a,fun h=>b h.symm⟩
def stpB (s:SysF) (f:Nat):Nat→Nat→Bool
 | 0,e=>e==f
 | d+1,e=>(List.range s.ex.length).any fun g=>adjB s e g&&stpB s f d g
theorem stp_zero {s:SysF} {f e:Nat}:stpB s f 0 e=true↔e=f:=by simp[stpB]
theorem stp_succ {s:SysF} {f e d:Nat}:stpB s f (d+1) e=true↔∃g,g<s.ex.length∧adjB s e g=true∧stpB s f d g=true:=by
 rw[show stpB s f (d+1) e=(List.range s.ex.length).any fun g=>adjB s e g&&stpB s f d g from rfl]
 simp only[List.any_eq_true,List.mem_range,Bool.and_eq_true]
theorem stp_add {s:SysF} {f g:Nat}:∀{d k e:Nat},stpB s g d e=true→stpB s f k g=true→stpB s f (d+k) e=true
 | 0,k,e,h,h'=>by rw[stp_zero]at h;subst h;rwa [Nat.zero_add]
 | d+1,k,e,h,h'=>by
  obtain ⟨x,hx,h1,h2⟩:=stp_succ.1 h
  rw[show d+1+k=(d+k)+1 by omega]
  exact stp_succ.2 ⟨x,hx,h1,stp_add h2 h'⟩
theorem stp_one {s:SysF} {e f:Nat} (hf:f<s.ex.length) (h:adjB s e f=true):stpB s f 1 e=true:=stp_succ.2 ⟨f,hf,h,stp_zero.2 rfl⟩
theorem stp_rev {s:SysF} {f:Nat} (hf:f<s.ex.length):∀{d e:Nat},e<s.ex.length→stpB s f d e=true→stpB s e d f=true
 | 0,e,_,h=>by rw[stp_zero]at h ⊢;exact h.symm
 | d+1,e,he,h=>by
  obtain ⟨x,hx,h1,h2⟩:=stp_succ.1 h
  have h3:=stp_rev hf hx h2
  rw[adjB_comm]at h1
  exact stp_add h3 (stp_one he h1)
theorem inj_le:∀(n m:Nat) (f:Nat→Nat),(∀i,i<m→f i<n)→(∀i j,i<m→j<m→f i=f j→i=j)→m≤n
 | 0,m,f,h,_=>by
  apply Decidable.byContradiction
  intro hm
  have:=h 0 (by omega)
  omega
 | n+1,m,f,h,hi=>by
  by_cases hx:∃k,k<m∧f k=n
  ·obtain ⟨k,hk,hkn⟩:=hx
   have:=inj_le n (m - 1) (fun i=>if i<k then f i else f (i+1)) (fun i him=>by
    split
    ·rename_i h1
     have h2:=h i (by omega)
     have:f i≠n:=fun e=>by have:=hi i k (by omega) hk (by omega);omega
     omega
    ·rename_i h1
     have h2:=h (i+1) (by omega)
     have:f (i+1)≠n:=fun e=>by have:=hi (i+1) k (by omega) hk (by omega);omega
     omega) (fun i j him hjm e=>by
    split at e<;>split at e
    ·exact hi i j (by omega) (by omega) e
    ·have:=hi i (j+1) (by omega) (by omega) e;omega
    ·have:=hi (i+1) j (by omega) (by omega) e;omega
    ·have:=hi (i+1) (j+1) (by omega) (by omega) e;omega)
   omega
  ·have:=inj_le n m f (fun i him=>by
    have h1:=h i him
    have:f i≠n:=fun e=>hx ⟨i,him,e⟩
    omega) hi
   omega
def Lst (s:SysF) (f d e:Nat):Prop:=stpB s f d e=true∧∀k,k<d→stpB s f k e=false
theorem lst_of {s:SysF} {f e:Nat}:∀{d:Nat},stpB s f d e=true→∃k,k≤d∧Lst s f k e:=by
 intro d
 induction d using Nat.strongRecOn with
 | ind d ih=>
  intro h
  by_cases hx:∃k,k<d∧stpB s f k e=true
  ·obtain ⟨k,hk,h1⟩:=hx
   obtain ⟨j,hj,h2⟩:=ih k hk h1
   exact ⟨j,by omega,h2⟩
  ·refine ⟨d,Nat.le_refl _,h,fun k hk=>?_⟩
   cases e1:stpB s f k e with
   | false=>rfl
   | true=>exact absurd ⟨k,hk,e1⟩ hx
theorem lst_uniq {s:SysF} {f d k e:Nat} (h:Lst s f d e) (h':Lst s f k e):d=k:=by
 rcases Nat.lt_trichotomy d k with h1 | h1 | h1
 ·have:=h'.2 d h1;rw[h.1]at this;cases this
 ·exact h1
 ·have:=h.2 k h1;rw[h'.1]at this;cases this
theorem lst_prev {s:SysF} {f d e:Nat} (h:Lst s f (d+1) e):∃g,g<s.ex.length∧adjB s e g=true∧Lst s f d g:=by
 obtain ⟨g,hg,h1,h2⟩:=stp_succ.1 h.1
 refine ⟨g,hg,h1,h2,fun k hk=>?_⟩
 cases e1:stpB s f k g with
 | false=>rfl
 | true=>
  have:=h.2 (k+1) (by omega)
  rw[stp_succ.2 ⟨g,hg,h1,e1⟩]at this
  cases this
theorem lst_down {s:SysF} {f:Nat}:∀{d e:Nat},e<s.ex.length→Lst s f d e→∀k,k≤d→∃g,g<s.ex.length∧Lst s f k g
 | 0,e,he,h,k,hk=>by
  obtain rfl:k=0:=by omega
  exact ⟨e,he,h⟩
 | d+1,e,he,h,k,hk=>by
  by_cases e1:k=d+1
  ·subst e1;exact ⟨e,he,h⟩
  ·obtain ⟨g,hg,_,h2⟩:=lst_prev h
   exact lst_down hg h2 k (by omega)
theorem lst_lt {s:SysF} {f d e:Nat} (he:e<s.ex.length) (h:Lst s f d e):d<s.ex.length:=by
 have hd:=fun k=>lst_down he h k
 have:=inj_le s.ex.length (d+1) (fun k=>if hk:k≤d then (hd k hk).choose else 0) (fun i hi=>by
  rw[dif_pos (show i≤d by omega)]
  exact (hd i (by omega)).choose_spec.1) (fun i j hi hj e1=>by
  rw[dif_pos (show i≤d by omega),dif_pos (show j≤d by omega)]at e1
  have h1:=(hd i (by omega)).choose_spec.2
  have h2:=(hd j (by omega)).choose_spec.2
  rw[e1]at h1
  exact lst_uniq h1 h2)
 omega
def dstV (s:SysF) (f e:Nat):Int:=minT (fun d=>stpB s f d e) 0 s.ex.length
theorem dst_spec {s:SysF} (f:Nat) {e:Nat} (he:e<s.ex.length):(dstV s f e= -1∧∀d,stpB s f d e=false)∨∃d:Nat,dstV s f e=d∧Lst s f d e:=by
 have hs:∀n k,(minT (fun d=>stpB s f d e) k n= -1∧∀i,k≤i→i<k+n→stpB s f i e=false)∨∃t:Nat,minT (fun d=>stpB s f d e) k n=t∧k≤t∧t<k+n∧stpB s f t e=true∧∀i,k≤i→i<t→stpB s f i e=false:=by
  intro n
  induction n with
  | zero=>intro k;exact .inl ⟨rfl,fun i h1 h2=>by omega⟩
  | succ n ih=>
   intro k
   rw[show minT (fun d=>stpB s f d e) k (n+1)=if stpB s f k e then (k:Int) else minT (fun d=>stpB s f d e) (k+1) n from rfl]
   cases h:stpB s f k e with
   | true=>rw[if_pos rfl];exact .inr ⟨k,rfl,Nat.le_refl _,by omega,h,fun i h1 h2=>by omega⟩
   | false=>
    rw[if_neg (by simp)]
    rcases ih (k+1) with ⟨h1,h2⟩ | ⟨t,h1,h2,h3,h4,h5⟩
    ·refine .inl ⟨h1,fun i h3 h4=>?_⟩
     by_cases e1:i=k
     ·subst e1;exact h
     ·exact h2 i (by omega) (by omega)
    ·refine .inr ⟨t,h1,by omega,by omega,h4,fun i h6 h7=>?_⟩
     by_cases e1:i=k
     ·subst e1;exact h
     ·exact h5 i (by omega) (by omega)
 rcases hs s.ex.length 0 with ⟨h1,h2⟩ | ⟨t,h1,_,_,h4,h5⟩
 ·refine .inl ⟨h1,fun d=>?_⟩
  cases hd:stpB s f d e with
  | false=>rfl
  | true=>
   obtain ⟨k,_,hl⟩:=lst_of hd
   have h3:=lst_lt he hl
   have:=h2 k (by omega) (by omega)
   rw[hl.1]at this;cases this
 ·exact .inr ⟨t,h1,h4,fun i hi=>h5 i (by omega) hi⟩
theorem dst_lst {s:SysF} {f d e:Nat} (he:e<s.ex.length) (h:Lst s f d e):dstV s f e=d:=by
 rcases dst_spec f he with ⟨_,h1⟩ | ⟨k,h1,h2⟩
 ·have:=h1 d;rw[h.1]at this;cases this
 ·rw[h1,lst_uniq h2 h]
theorem dst_self (s:SysF) {f:Nat} (hf:f<s.ex.length):dstV s f f=0:=dst_lst (d:=0) hf ⟨stp_zero.2 rfl,fun k hk=>absurd hk (by omega)⟩
theorem dst_zero {s:SysF} {f e:Nat} (he:e<s.ex.length) (h:dstV s f e=0):e=f:=by
 rcases dst_spec f he with ⟨h1,_⟩ | ⟨k,h1,h2⟩
 ·omega
 ·obtain rfl:k=0:=by omega
  exact stp_zero.1 h2.1
theorem dst_bound {s:SysF} (f:Nat) {e:Nat} (he:e<s.ex.length): -1≤dstV s f e∧dstV s f e<s.ex.length:=by
 rcases dst_spec f he with ⟨h1,_⟩ | ⟨k,h1,h2⟩
 ·omega
 ·have:=lst_lt he h2;omega
theorem dst_symm {s:SysF} {e f:Nat} (he:e<s.ex.length) (hf:f<s.ex.length):dstV s f e=dstV s e f:=by
 rcases dst_spec f he with ⟨h1,h2⟩ | ⟨k,h1,h2⟩<;>rcases dst_spec e hf with ⟨h3,h4⟩ | ⟨j,h3,h4⟩
 ·omega
 ·have:=h2 j;rw[stp_rev he hf h4.1]at this;cases this
 ·have:=h4 k;rw[stp_rev hf he h2.1]at this;cases this
 ·rw[h1,h3]
  have a:=stp_rev hf he h2.1
  have b:=stp_rev he hf h4.1
  rcases Nat.lt_trichotomy k j with h | h | h
  ·have:=h4.2 k h;rw[a]at this;cases this
  ·rw[h]
  ·have:=h2.2 j h;rw[b]at this;cases this
theorem dst_tri {s:SysF} {e f g:Nat} (he:e<s.ex.length) (hf:f<s.ex.length) (h1:0≤dstV s f e) (h2:0≤dstV s g f):0≤dstV s g e∧dstV s g e≤dstV s f e+dstV s g f:=by
 rcases dst_spec f he with ⟨a,_⟩ | ⟨k,a,b⟩
 ·omega
 rcases dst_spec g hf with ⟨c,_⟩ | ⟨j,c,d⟩
 ·omega
 have h3:=stp_add b.1 d.1
 obtain ⟨m,hm,hl⟩:=lst_of h3
 have:=dst_lst he hl
 omega
theorem dst_one {s:SysF} {e f:Nat} (he:e<s.ex.length) (hf:f<s.ex.length) (hne:e≠f):dstV s f e=1↔byN s e f≠0:=by
 constructor
 ·intro h
  rcases dst_spec f he with ⟨a,_⟩ | ⟨k,a,b⟩
  ·omega
  ·obtain rfl:k=1:=by omega
   obtain ⟨g,_,h1,h2⟩:=stp_succ.1 b.1
   rw[stp_zero]at h2
   subst h2
   exact (adjB_iff.1 h1).1
 ·intro h
  refine dst_lst (d:=1) he ⟨stp_one hf (adjB_iff.2 ⟨h,hne⟩),fun k hk=>?_⟩
  obtain rfl:k=0:=by omega
  cases h0:stpB s f 0 e with
  | false=>rfl
  | true=>exact absurd (stp_zero.1 h0) hne
theorem dst_adj {s:SysF} {f e g:Nat} (he:e<s.ex.length) (hg:g<s.ex.length) (h:adjB s e g=true) (h0:0≤dstV s f g):0≤dstV s f e∧dstV s f e≤dstV s f g+1:=by
 rcases dst_spec f hg with ⟨a,_⟩ | ⟨k,a,b⟩
 ·omega
 ·obtain ⟨m,hm,hl⟩:=lst_of (stp_succ.2 ⟨g,hg,h,b.1⟩)
  have:=dst_lst he hl
  omega
theorem dst_prev {s:SysF} {f e:Nat} (he:e<s.ex.length) (h:0<dstV s f e):∃g,g<s.ex.length∧adjB s e g=true∧dstV s f g=dstV s f e - 1:=by
 rcases dst_spec f he with ⟨a,_⟩ | ⟨k,a,b⟩
 ·omega
 ·obtain ⟨j,rfl⟩:∃j,k=j+1:=⟨k - 1,by omega⟩
  obtain ⟨g,hg,h1,h2⟩:=lst_prev b
  exact ⟨g,hg,h1,by rw[dst_lst hg h2,a];omega⟩
end Go.Proofs.YtaijafjfafbcfaaGreat
namespace Go.Proofs.YtaijafjfafbcfaaGreat
theorem nth_set' {l:List Int} {k i:Nat} {x:Int} (hk:k<l.length):nth (l.set k x) i=if i=k then x else nth l i:=by
 unfold nth
 rw[List.getD_eq_getElem?_getD,List.getD_eq_getElem?_getD,List.getElem?_set]
 by_cases e:k=i
 ·subst e;rw[if_pos rfl,if_pos hk,if_pos rfl];rfl
 ·rw[if_neg e,if_neg (fun h=>e h.symm)]
structure BfsIn (s:SysF) (f x j:Nat) (out:List Int) (Q:List Nat):Prop where
 len:out.length=s.ex.length
 val:∀e,e<s.ex.length→nth out e= -1∨(0≤dstV s f e∧nth out e=dstV s f e)
 qin:∀y∈Q,y<s.ex.length∧0≤nth out y
 srt:∃A B,Q=x::(A++B)∧(∀y∈A,dstV s f y=dstV s f x)∧(∀y∈B,dstV s f y=dstV s f x+1)
 done:∀e,e<s.ex.length→0≤nth out e→e∉Q→∀g,g<s.ex.length→adjB s e g=true→0≤nth out g
 low:∀e,e<s.ex.length→0≤dstV s f e→dstV s f e≤dstV s f x→0≤nth out e
 prt:∀g,g<j→adjB s x g=true→0≤nth out g
 home:0≤nth out f
theorem BfsIn.head {s:SysF} {f x j:Nat} {out:List Int} {Q:List Nat} (h:BfsIn s f x j out Q):x<s.ex.length∧nth out x=dstV s f x∧0≤dstV s f x:=by
 obtain ⟨A,B,e,_⟩:=h.srt
 obtain ⟨h1,h2⟩:=h.qin x (by rw[e];simp)
 rcases h.val x h1 with h3 | h3
 ·omega
 ·exact ⟨h1,h3.2,h3.1⟩
theorem BfsIn.skip {s:SysF} {f x j:Nat} {out:List Int} {Q:List Nat} (h:BfsIn s f x j out Q) (hs:adjB s x j=false∨0≤nth out j):BfsIn s f x (j+1) out Q:=
 ⟨h.len,h.val,h.qin,h.srt,h.done,h.low,fun g hg ha=>by
  by_cases e:g=j
  ·subst e
   rcases hs with h1 | h1
   ·rw[h1]at ha;cases ha
   ·exact h1
  ·exact h.prt g (by omega) ha,h.home⟩
theorem BfsIn.push {s:SysF} {f x j:Nat} {out:List Int} {Q:List Nat} (h:BfsIn s f x j out Q) (hf:f<s.ex.length) (hj:j<s.ex.length) (ha:adjB s x j=true) (h0:nth out j<0):
  BfsIn s f x (j+1) (out.set j (nth out x+1)) (Q++[j]):=by
 obtain ⟨hx,hxo,hx0⟩:=h.head
 have hlen:=h.len
 have hset:=fun i=>nth_set' (l:=out) (k:=j) (i:=i) (x:=nth out x+1) (by omega)
 have hd:=dst_adj (f:=f) hj hx (by rw[adjB_comm];exact ha) hx0
 have hdj:dstV s f j=dstV s f x+1:=by
  by_cases e:dstV s f j≤dstV s f x
  ·have:=h.low j hj hd.1 e;omega
  ·omega
 have mono:∀i,0≤nth out i→0≤nth (out.set j (nth out x+1)) i:=fun i hi=>by
  rw[hset]
  split
  ·omega
  ·exact hi
 refine ⟨by rw[List.length_set];exact hlen,fun e he=>?_,fun y hy=>?_,?_,fun e he h1 h2 g hg h3=>?_,fun e he h1 h2=>mono e (h.low e he h1 h2),fun g hg h1=>?_,mono f h.home⟩
 ·rw[hset]
  by_cases ej:e=j
  ·subst ej;rw[if_pos rfl];right;omega
  ·rw[if_neg ej];exact h.val e he
 ·rcases List.mem_append.1 hy with hy | hy
  ·obtain ⟨a,b⟩:=h.qin y hy
   exact ⟨a,mono y b⟩
  ·rw[List.mem_singleton.1 hy]
   refine ⟨hj,?_⟩
   rw[hset,if_pos rfl];omega
 ·obtain ⟨A,B,e,h1,h2⟩:=h.srt
  refine ⟨A,B++[j],by rw[e];simp,h1,fun y hy=>?_⟩
  rcases List.mem_append.1 hy with hy | hy
  ·exact h2 y hy
  ·rw[List.mem_singleton.1 hy];exact hdj
 ·rw[hset]at h1
  have hej:e≠j:=fun e1=>h2 (by rw[e1];simp)
  rw[if_neg hej]at h1
  exact mono g (h.done e he h1 (fun hm=>h2 (List.mem_append_left _ hm)) g hg h3)
 ·by_cases e:g=j
  ·subst e;rw[hset,if_pos rfl];omega
  ·exact mono g (h.prt g (by omega) h1)
def Far (s:SysF) (f:Nat) (out:List Int):Prop:=out.length=s.ex.length∧∀e,e<s.ex.length→nth out e=dstV s f e
theorem BfsIn.pop {s:SysF} {f x:Nat} {out:List Int} {R:List Nat} (h:BfsIn s f x s.ex.length out (x::R)):(R=[]∧Far s f out)∨∃y R',R=y::R'∧BfsIn s f y 0 out R:=by
 obtain ⟨hx,hxo,hx0⟩:=h.head
 have hdone:∀e,e<s.ex.length→0≤nth out e→e∉R→∀g,g<s.ex.length→adjB s e g=true→0≤nth out g:=fun e he h1 h2 g hg h3=>by
  by_cases ex:e=x
  ·subst ex;exact h.prt g hg h3
  ·exact h.done e he h1 (fun hm=>by rcases List.mem_cons.1 hm with hm | hm;exact ex hm;exact h2 hm) g hg h3
 cases R with
 | nil=>
  left
  refine ⟨rfl,h.len,?_⟩
  have key:∀(k:Nat) e,e<s.ex.length→dstV s f e=k→0≤nth out e:=by
   intro k
   induction k with
   | zero=>
    intro e he h1
    have:=dst_zero he h1
    subst this
    exact h.home
   | succ k ih=>
    intro e he h1
    obtain ⟨g,hg,h2,h3⟩:=dst_prev (f:=f) he (by omega)
    have h4:=ih g hg (by omega)
    exact hdone g hg h4 (by simp) e he (by rw[adjB_comm];exact h2)
  intro e he
  rcases h.val e he with h1 | h1
  ·have hb:=dst_bound f he
   by_cases h0:0≤dstV s f e
   ·have:=key (dstV s f e).toNat e he (by omega);omega
   ·omega
  ·exact h1.2
 | cons y R'=>
  right
  refine ⟨y,R',rfl,?_⟩
  obtain ⟨A,B,e,hA,hB⟩:=h.srt
  have e2:y::R'=A++B:=by injection e
  have hyin:y∈A++B:=by rw[←e2];simp
  have hq:∀z∈y::R',z<s.ex.length∧0≤nth out z:=fun z hz=>h.qin z (List.mem_cons_of_mem _ hz)
  cases A with
  | nil=>
   rw[List.nil_append]at e2 hyin
   have hy1:=hB y hyin
   refine ⟨h.len,h.val,hq,⟨R',[],by simp,fun z hz=>?_,fun z hz=>by cases hz⟩,hdone,fun a ha h0 h1=>?_,fun g hg=>by omega,h.home⟩
   ·rw[hy1];exact hB z (by rw[←e2];exact List.mem_cons_of_mem _ hz)
   ·by_cases h2:dstV s f a≤dstV s f x
    ·exact h.low a ha h0 h2
    ·obtain ⟨g,hg,h3,h4⟩:=dst_prev (f:=f) ha (by omega)
     have h5:=h.low g hg (by omega) (by omega)
     refine hdone g hg h5 (fun hm=>?_) a ha (by rw[adjB_comm];exact h3)
     have:=hB g (by rw[←e2];exact hm)
     omega
  | cons z A'=>
   have hzy:z=y:=by rw[List.cons_append]at e2;injection e2 with e3 e4;exact e3.symm
   subst hzy
   have hy1:=hA z (by simp)
   refine ⟨h.len,h.val,hq,⟨A',B,e2,fun a ha=>?_,fun a ha=>?_⟩,hdone,fun a ha h0 h1=>h.low a ha h0 (by omega),fun g hg=>by omega,h.home⟩
   ·rw[hy1];exact hA a (List.mem_cons_of_mem _ ha)
   ·rw[hy1];exact hB a ha
theorem bfs_start {s:SysF} {f:Nat} (hf:f<s.ex.length):BfsIn s f f 0 ((List.replicate s.ex.length (-1)).set f 0) [f]:=by
 have hset:=fun i=>nth_set' (l:=List.replicate s.ex.length (-1)) (k:=f) (i:=i) (x:=0) (by simp;omega)
 have hrep:∀i,i<s.ex.length→nth (List.replicate s.ex.length (-1)) i= -1:=fun i hi=>by simp[nth,hi]
 have h0:=dst_self s hf
 refine ⟨by simp,fun e he=>?_,fun y hy=>?_,⟨[],[],rfl,by simp,by simp⟩,fun e he h1 h2=>?_,fun e he h1 h2=>?_,fun g hg=>by omega,?_⟩
 ·rw[hset]
  by_cases e1:e=f
  ·subst e1;rw[if_pos rfl];right;omega
  ·rw[if_neg e1,hrep e he];exact .inl rfl
 ·rw[List.mem_singleton.1 hy]
  refine ⟨hf,?_⟩
  rw[hset,if_pos rfl];omega
 ·rw[hset]at h1
  by_cases e1:e=f
  ·exact absurd (by rw[e1];simp) h2
  ·rw[if_neg e1,hrep e he]at h1;omega
 ·have:=dst_zero he (f:=f) (by omega)
  rw[hset,if_pos this];omega
 ·rw[hset,if_pos rfl];omega
def levV (s:SysF) (f d e i:Nat):Int:=if 0≤dstV s f i∧(dstV s f i≤d∨(dstV s f i=d+1∧i<e)) then dstV s f i else -1
def levL (s:SysF) (f d e:Nat):List Int:=(List.range s.ex.length).map (levV s f d e)
theorem levL_len (s:SysF) (f d e:Nat):(levL s f d e).length=s.ex.length:=by simp[levL]
theorem levL_at (s:SysF) (f d e:Nat) {i:Nat} (h:i<s.ex.length):nth (levL s f d e) i=levV s f d e i:=by simp[levL,nth,h]
theorem list_ext' {a b:List Int} (hl:a.length=b.length) (h:∀i,i<a.length→nth a i=nth b i):a=b:=nth_ext hl h
theorem lev_step {s:SysF} {f d e:Nat} (he:e<s.ex.length):
  (0≤levV s f d e e∧levL s f d (e+1)=levL s f d e)∨
  (levV s f d e e<0∧(∀g,g<s.ex.length→¬(levV s f d e g=d∧byN s e g≠0))∧levL s f d (e+1)=levL s f d e)∨
  (levV s f d e e<0∧(∃g,g<s.ex.length∧levV s f d e g=d∧byN s e g≠0)∧levL s f d (e+1)=(levL s f d e).set e (d+1)):=by
 have hat:∀i,i<s.ex.length→i≠e→levV s f d (e+1) i=levV s f d e i:=fun i hi hne=>by
  unfold levV
  by_cases h:0≤dstV s f i∧(dstV s f i≤(d:Int)∨(dstV s f i=(d:Int)+1∧i<e))
  ·rw[if_pos h,if_pos (by omega)]
  ·rw[if_neg h,if_neg (by omega)]
 have hsame:levV s f d (e+1) e=levV s f d e e→levL s f d (e+1)=levL s f d e:=fun hh=>by
  refine list_ext' (by rw[levL_len,levL_len]) fun i hi=>?_
  rw[levL_len]at hi
  rw[levL_at _ _ _ _ hi,levL_at _ _ _ _ hi]
  by_cases e1:i=e
  ·subst e1;exact hh
  ·exact hat i hi e1
 have hlev:∀g,levV s f d e g=d↔dstV s f g=d:=fun g=>by
  unfold levV
  split<;>omega
 have hb:=dst_bound f he
 by_cases h1:0≤dstV s f e∧dstV s f e≤d
 ·left
  have a:levV s f d e e=dstV s f e:=by unfold levV;rw[if_pos ⟨h1.1,.inl h1.2⟩]
  have b:levV s f d (e+1) e=dstV s f e:=by unfold levV;rw[if_pos ⟨h1.1,.inl h1.2⟩]
  exact ⟨by omega,hsame (by rw[a,b])⟩
 ·have a:levV s f d e e= -1:=by unfold levV;rw[if_neg (by omega)]
  by_cases h2:dstV s f e=d+1
  ·right;right
   obtain ⟨g,hg,h3,h4⟩:=dst_prev (f:=f) he (by omega)
   refine ⟨by omega,⟨g,hg,(hlev g).2 (by omega),(adjB_iff.1 h3).1⟩,?_⟩
   refine list_ext' (by rw[levL_len,List.length_set,levL_len]) fun i hi=>?_
   rw[levL_len]at hi
   rw[levL_at _ _ _ _ hi,nth_set' (by rw[levL_len];exact he),levL_at _ _ _ _ hi]
   by_cases e1:i=e
   ·subst e1
    rw[if_pos rfl]
    unfold levV
    rw[if_pos (by omega)];exact h2
   ·rw[if_neg e1];exact hat i hi e1
  ·right;left
   refine ⟨by omega,fun g hg h3=>?_,hsame ?_⟩
   ·have h4:=(hlev g).1 h3.1
    have hne:e≠g:=fun e1=>by subst e1;omega
    have:=dst_adj (f:=f) he hg (adjB_iff.2 ⟨h3.2,hne⟩) (by omega)
    omega
   ·rw[a];unfold levV;rw[if_neg (by omega)]
end Go.Proofs.YtaijafjfafbcfaaGreat
namespace Go.Proofs.YtaijafjfafbcfaaGreat
section
variable {K:Type} [DecidableEq K]
def addF (s:List K) (k:K):List K:=if k∈s then s else s++[k]
def firsts (l:List K):List K:=l.foldl addF []
def lab (l:List K) (k:K):Nat:=(firsts l).idxOf k
def labs (l:List K):List Int:=l.map fun k=>(lab l k:Int)
theorem firsts_snoc (l:List K) (x:K):firsts (l++[x])=addF (firsts l) x:=by simp[firsts,List.foldl_append]
theorem mem_addF {s:List K} {x k:K}:k∈addF s x↔k∈s∨k=x:=by
 unfold addF;split
 ·rename_i h;exact ⟨.inl,fun h'=>h'.elim id (fun e=>e▸h)⟩
 ·simp
theorem mem_foldl_addF (l:List K):∀s:List K,∀k,k∈l.foldl addF s↔k∈s∨k∈l:=by
 induction l with
 | nil=>simp
 | cons x l ih=>intro s k;simp[ih,mem_addF,or_assoc]
theorem mem_firsts {l:List K} {k:K}:k∈firsts l↔k∈l:=by simp[firsts,mem_foldl_addF]
theorem idxOf_snoc {s:List K} {x k:K} (h:k∈s):(s++[x]).idxOf k=s.idxOf k:=by rw[List.idxOf_append];simp[h]
theorem idxOf_new {s:List K} {x:K} (h:x∉s):(s++[x]).idxOf x=s.length:=by rw[List.idxOf_append];simp[h]
theorem lab_snoc {l:List K} {x k:K} (h:k∈l):lab (l++[x]) k=lab l k:=by
 unfold lab;rw[firsts_snoc];unfold addF;split
 ·rfl
 ·exact idxOf_snoc (mem_firsts.2 h)
theorem lab_new {l:List K} {x:K} (h:x∉l):lab (l++[x]) x=(firsts l).length:=by
 unfold lab;rw[firsts_snoc];unfold addF;rw[if_neg (fun h'=>h (mem_firsts.1 h'))]
 exact idxOf_new (fun h'=>h (mem_firsts.1 h'))
theorem firsts_old {l:List K} {x:K} (h:x∈l):firsts (l++[x])=firsts l:=by rw[firsts_snoc];unfold addF;rw[if_pos (mem_firsts.2 h)]
theorem firsts_new {l:List K} {x:K} (h:x∉l):firsts (l++[x])=firsts l++[x]:=by rw[firsts_snoc];unfold addF;rw[if_neg (fun h'=>h (mem_firsts.1 h'))]
theorem length_addF_le (s:List K) (x:K):(addF s x).length≤s.length+1:=by unfold addF;split<;>simp
theorem length_firsts_le (l:List K):(firsts l).length≤l.length:=by
 have:∀(l s:List K),(l.foldl addF s).length≤s.length+l.length:=by
  intro l
  induction l with
  | nil=>simp
  | cons x l ih=>intro s;have:=ih (addF s x);have:=length_addF_le s x;simp;omega
 simpa[firsts] using this l []
theorem labs_snoc (l:List K) (x:K):labs (l++[x])=labs l++[(lab (l++[x]) x:Int)]:=by
 unfold labs
 rw[List.map_append]
 congr 1
 apply List.map_congr_left
 intro k hk
 rw[lab_snoc hk]
@[simp] theorem length_labs (l:List K):(labs l).length=l.length:=by simp[labs]
theorem lab_lt {l:List K} {k:K} (h:k∈l):lab l k<(firsts l).length:=List.idxOf_lt_length_iff.2 (mem_firsts.2 h)
theorem lab_inj {l:List K} {j k:K} (hj:j∈l) (hk:k∈l) (h:lab l j=lab l k):j=k:=by
 unfold lab at h
 have h1:=List.getElem_idxOf (x:=j) (xs:=firsts l) (List.idxOf_lt_length_iff.2 (mem_firsts.2 hj))
 have h2:=List.getElem_idxOf (x:=k) (xs:=firsts l) (List.idxOf_lt_length_iff.2 (mem_firsts.2 hk))
 rw[←h1,←h2]
 congr 1
end
end Go.Proofs.YtaijafjfafbcfaaGreat
namespace Go.Proofs.YtaijafjfafbcfaaGreat
section
variable {K:Type} [DecidableEq K]
def labMap (l:List K) (k:K):Option Value:=if k∈l then some (.int .i64 (lab l k)) else none
def labRow (l:List K) (n:Nat):List Value:=(labs l).map (Value.int .i64)++List.replicate (n - l.length) (.int .i64 0)
theorem labMap_nil:labMap ([]:List K)=fun _=>none:=by funext k;simp[labMap]
theorem labMap_hit {l:List K} {x:K} (h:x∈l):labMap l x=some (.int .i64 (lab l x)):=by simp[labMap,h]
theorem labMap_miss {l:List K} {x:K} (h:x∉l):labMap l x=none:=by simp[labMap,h]
theorem labMap_old {l:List K} {x:K} (h:x∈l):labMap (l++[x])=labMap l:=by
 funext k
 unfold labMap
 by_cases hk:k∈l
 ·rw[if_pos hk,if_pos (by simp[hk]),lab_snoc hk]
 ·have:k≠x:=fun e=>hk (e▸h)
  rw[if_neg hk,if_neg (by simp[hk,this])]
theorem labMap_new {l:List K} {x:K} (h:x∉l):(fun z=>if z=x then some (Value.int .i64 ((firsts l).length:Int)) else labMap l z)=labMap (l++[x]):=by
 funext k
 by_cases e:k=x
 ·subst e
  simp[labMap,lab_new h]
 ·rw[if_neg e]
  unfold labMap
  by_cases hk:k∈l
  ·rw[if_pos hk,if_pos (by simp[hk]),lab_snoc hk]
  ·rw[if_neg hk,if_neg (by simp[hk,e])]
theorem labRow_nil (n:Nat):labRow ([]:List K) n=List.replicate n (.int .i64 0):=by simp[labRow,labs]
theorem labRow_full (l:List K):labRow l l.length=(labs l).map (Value.int .i64):=by simp[labRow]
theorem labRow_get {l:List K} {n:Nat} (h:l.length<n):(labRow l n)[l.length]? =some (.int .i64 0):=by
 unfold labRow
 rw[List.getElem?_append_right (by simp)]
 have e:n - l.length=(n - l.length - 1)+1:=by omega
 rw[e,List.replicate_succ]
 simp
theorem labRow_set {l:List K} {x:K} {n:Nat} (h:l.length<n):(labRow l n).set l.length (.int .i64 (lab (l++[x]) x))=labRow (l++[x]) n:=by
 unfold labRow
 rw[labs_snoc,List.map_append,List.set_append_right _ _ (by simp)]
 have e:n - l.length=(n - (l++[x]).length)+1:=by simp;omega
 rw[e,List.replicate_succ]
 simp
end
theorem labs_wf {K:Type} [DecidableEq K] {l:List K} (h:l.length≤65536):∀x∈labs l,WF x:=by
 intro x hx
 obtain ⟨k,hk,rfl⟩:=List.mem_map.1 hx
 have:=lab_lt hk
 have:=length_firsts_le l
 exact WF.small (by omega)
end Go.Proofs.YtaijafjfafbcfaaGreat
