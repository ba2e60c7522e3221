/- Part of the proof that the laws answer true for every input. -/
import Derived.Test.YtaijafjfafbcfaaGreatPXa21
import Derived.Test.YtaijafjfafbcfaaGreatPXa30
set_option linter.unusedSimpArgs false
set_option linter.unnecessarySimpa false
set_option linter.unusedVariables false
set_option maxRecDepth 100000
set_option maxHeartbeats 40000000
namespace Go.Proofs.YtaijafjfafbcfaaGreat
theorem nthL_prefix {t t':List (List Int)} (h:t<+:t') {v:Nat} (hv:v<t.length):nthL t' v=nthL t v:=by
 obtain ⟨r,rfl⟩:=h
 simp[nthL,List.getElem?_append_left hv]
theorem nth_app {l r:List Int} {i:Nat} (h:i<l.length):nth (l++r) i=nth l i:=by simp[nth,List.getElem?_append_left h]
theorem nth_last {l:List Int} {x:Int}:nth (l++[x]) l.length=x:=by simp[nth]
theorem nthL_app {l r:List (List Int)} {i:Nat} (h:i<l.length):nthL (l++r) i=nthL l i:=nthL_prefix (List.prefix_append _ _) h
theorem nthL_last {l:List (List Int)} {x:List Int}:nthL (l++[x]) l.length=x:=by simp[nthL]
def Refs (t:List (List Int)):Prop:=∀v,v<t.length→∀j,j<5→nth (nthL t v) (3+j)<v
theorem Refs.add {t:List (List Int)} {x:List Int} (h:Refs t) (hx:∀j,j<5→nth x (3+j)<t.length):Refs (addV t x):=by
 unfold addV
 split
 ·exact h
 ·intro v hv j hj
  rw[List.length_append,List.length_singleton]at hv
  by_cases e:v<t.length
  ·rw[nthL_app e];exact h v e j hj
  ·have e2:v=t.length:=by omega
   subst e2
   rw[nthL_last];exact hx j hj
theorem layV_at (mk:Nat→List Int) (t:List (List Int)):∀q i,i<q→∃u:Nat,u<(layV mk t q).1.length∧nth (layV mk t q).2 i=u∧nthL (layV mk t q).1 u=mk i
 | 0,i,h=>by omega
 | q+1,i,h=>by
  unfold layV
  have hl:=layV_len mk t q
  by_cases e:i<q
  ·obtain ⟨u,h1,h2,h3⟩:=layV_at mk t q i e
   have hp:=addV_prefix (layV mk t q).1 (mk q)
   exact ⟨u,Nat.lt_of_lt_of_le h1 hp.length_le,by rw[nth_app (by omega)];exact h2,by rw[nthL_prefix hp h1];exact h3⟩
  ·have e2:i=q:=by omega
   subst e2
   refine ⟨idxV (layV mk t i).1 (mk i),idxV_lt _ _,?_,addV_get _ _⟩
   have:=nth_last (l:=(layV mk t i).2) (x:=((idxV (layV mk t i).1 (mk i):Nat):Int))
   rw[hl]at this;exact this
theorem layV_new (mk:Nat→List Int) (t:List (List Int)):∀q v,v<(layV mk t q).1.length→v<t.length∨∃i,i<q∧nth (layV mk t q).2 i=(v:Nat)
 | 0,v,h=>.inl h
 | q+1,v,h=>by
  unfold layV at h ⊢
  have hl:=layV_len mk t q
  by_cases e:v<(layV mk t q).1.length
  ·rcases layV_new mk t q v e with h1 | ⟨i,h1,h2⟩
   ·exact .inl h1
   ·exact .inr ⟨i,by omega,by rw[nth_app (by omega)];exact h2⟩
  ·refine .inr ⟨q,by omega,?_⟩
   have h3:=addV_len (layV mk t q).1 (mk q)
   have h4:v=(layV mk t q).1.length:=by dsimp only at h;omega
   have h5:mk q∉(layV mk t q).1:=fun hm=>by
    unfold addV at h;rw[if_pos hm]at h;exact e h
   have:=nth_last (l:=(layV mk t q).2) (x:=((idxV (layV mk t q).1 (mk q):Nat):Int))
   rw[hl]at this
   rw[this,idxV_not h5,h4]
theorem layV_nodup (mk:Nat→List Int) {t:List (List Int)} (h:t.Nodup):∀q,(layV mk t q).1.Nodup
 | 0=>h
 | q+1=>by unfold layV;exact addV_nodup (layV_nodup mk h q)
theorem layV_refs (mk:Nat→List Int) {t:List (List Int)} (h:Refs t):∀q,(∀i,i<q→∀j,j<5→nth (mk i) (3+j)<t.length)→Refs (layV mk t q).1
 | 0,_=>h
 | q+1,hm=>by
  unfold layV
  refine (layV_refs mk h q fun i hi=>hm i (by omega)).add fun j hj=>?_
  have h1:=hm q (by omega) j hj
  have h2:=(layV_prefix mk t q).length_le
  omega
def vwE (n:Nat) (inn:List Int) (word vs:List (List Int)):Nat→Nat→List Int
 | 0,q=>firstV q (nth inn q)
 | k+1,q=>seenV (nthL word k) n (k+1) q (nthL vs k)
structure PlayOK (n:Nat) (inn:List Int) (word t:List (List Int)) (K:Nat) (T vs:List (List Int)):Prop where
 pre:t<+:T
 len:vs.length=K+1
 rows:∀k,k≤K→(nthL vs k).length=n
 at':∀k,k≤K→∀q,q<n→∃u:Nat,u<T.length∧nth (nthL vs k) q=u∧nthL T u=vwE n inn word vs k q
 new:∀v,v<T.length→v<t.length∨∃k,k≤K∧∃q,q<n∧nth (nthL vs k) q=(v:Nat)
 nodup:t.Nodup→T.Nodup
 refs:Refs t→Refs T
theorem heardV_lt {g prev:List Int} {n q r m:Nat} (h:∀q,q<n→nth prev q<(m:Int)):heardV g n q prev r<(m:Int):=by
 unfold heardV
 split
 ·rename_i h1;exact h r h1.1
 ·omega
theorem nth_seenV {g prev:List Int} {n k q j:Nat} (hj:j<5):nth (seenV g n k q prev) (3+j)=heardV g n q prev j:=by
 have:j=0∨j=1∨j=2∨j=3∨j=4:=by omega
 rcases this with rfl | rfl | rfl | rfl | rfl<;>rfl
theorem nth_firstV {x:Int} {q j:Nat} (hj:j<5):nth (firstV q x) (3+j)= -1:=by
 have:j=0∨j=1∨j=2∨j=3∨j=4:=by omega
 rcases this with rfl | rfl | rfl | rfl | rfl<;>rfl
theorem vwE_app {n:Nat} {inn:List Int} {word vs r:List (List Int)} {k q:Nat} (h:k≤vs.length):vwE n inn word (vs++r) k q=vwE n inn word vs k q:=by
 cases k with
 | zero=>rfl
 | succ k=>show seenV (nthL word k) n (k+1) q (nthL (vs++r) k)=seenV (nthL word k) n (k+1) q (nthL vs k);rw[nthL_app (by omega)]
theorem playV_ok (n:Nat) (inn:List Int) (word t:List (List Int)):∀K,PlayOK n inn word t K (playV n inn word t K).1 (playV n inn word t K).2
 | 0=>by
  unfold playV
  refine ⟨layV_prefix _ _ _,rfl,fun k hk=>?_,fun k hk q hq=>?_,fun v hv=>?_,fun h=>layV_nodup _ h _,fun h=>layV_refs _ h _ fun i hi j hj=>?_⟩
  ·have:k=0:=by omega
   subst this
   exact layV_len _ _ _
  ·have:k=0:=by omega
   subst this
   exact layV_at (fun q=>firstV q (nth inn q)) t n q hq
  ·rcases layV_new (fun q=>firstV q (nth inn q)) t n v hv with h | ⟨i,h1,h2⟩
   ·exact .inl h
   ·exact .inr ⟨0,Nat.le_refl _,i,h1,h2⟩
  ·rw[nth_firstV hj];omega
 | K+1=>by
  have ih:=playV_ok n inn word t K
  unfold playV
  generalize (playV n inn word t K).1=T at ih ⊢
  generalize (playV n inn word t K).2=vs at ih ⊢
  have hpre:=layV_prefix (fun q=>seenV (nthL word K) n (K+1) q (nthL vs K)) T n
  have hlen:=layV_len (fun q=>seenV (nthL word K) n (K+1) q (nthL vs K)) T n
  have hat:=layV_at (fun q=>seenV (nthL word K) n (K+1) q (nthL vs K)) T n
  have hnew:=layV_new (fun q=>seenV (nthL word K) n (K+1) q (nthL vs K)) T n
  have hnd:T.Nodup→(layV (fun q=>seenV (nthL word K) n (K+1) q (nthL vs K)) T n).1.Nodup:=fun h=>layV_nodup _ h n
  have hrf:Refs T→Refs (layV (fun q=>seenV (nthL word K) n (K+1) q (nthL vs K)) T n).1:=fun h=>layV_refs _ h n fun i hi j hj=>by
   rw[nth_seenV hj]
   exact heardV_lt fun q hq=>by obtain ⟨u,h1,h2,_⟩:=ih.at' K (Nat.le_refl _) q hq;omega
  generalize layV (fun q=>seenV (nthL word K) n (K+1) q (nthL vs K)) T n=L at hpre hlen hat hnew hnd hrf ⊢
  have hold:∀k,k≤K→nthL (vs++[L.2]) k=nthL vs k:=fun k hk=>nthL_app (by have:=ih.len;omega)
  have hlast:nthL (vs++[L.2]) (K+1)=L.2:=by have:=nthL_last (l:=vs) (x:=L.2);rw[ih.len]at this;exact this
  refine ⟨ih.pre.trans hpre,by simp[ih.len],fun k hk=>?_,fun k hk q hq=>?_,fun v hv=>?_,fun h=>hnd (ih.nodup h),fun h=>hrf (ih.refs h)⟩
  ·by_cases e:k≤K
   ·rw[hold k e];exact ih.rows k e
   ·have:k=K+1:=by omega
    subst this
    rw[hlast];exact hlen
  ·by_cases e:k≤K
   ·obtain ⟨u,h1,h2,h3⟩:=ih.at' k e q hq
    exact ⟨u,Nat.lt_of_lt_of_le h1 hpre.length_le,by rw[hold k e];exact h2,by rw[nthL_prefix hpre h1,vwE_app (by have:=ih.len;omega)];exact h3⟩
   ·have:k=K+1:=by omega
    subst this
    obtain ⟨u,h1,h2,h3⟩:=hat q hq
    exact ⟨u,h1,by rw[hlast];exact h2,by rw[vwE_app (by have:=ih.len;omega)];exact h3⟩
  ·rcases hnew v hv with h | ⟨i,h1,h2⟩
   ·rcases ih.new v h with h | ⟨k,h1,q,h2,h3⟩
    ·exact .inl h
    ·exact .inr ⟨k,by omega,q,h2,by rw[hold k h1];exact h3⟩
   ·exact .inr ⟨K+1,Nat.le_refl _,i,h1,by rw[hlast];exact h2⟩
structure ExOK (n K:Nat) (cs:List CaseD) (T:List (List Int)) (x:ExecD) (c:Nat):Prop where
 case:x.case=c
 clt:c<cs.length
 word:x.word.length=K
 len:x.vs.length=K+1
 rows:∀k,k≤K→(nthL x.vs k).length=n
 at':∀k,k≤K→∀q,q<n→∃u:Nat,u<T.length∧nth (nthL x.vs k) q=u∧nthL T u=vwE n (nthC cs c).inn x.word x.vs k q
theorem ExOK.grow {n K:Nat} {cs:List CaseD} {T T':List (List Int)} {x:ExecD} {c:Nat} (h:ExOK n K cs T x c) (hp:T<+:T'):ExOK n K cs T' x c:=
 ⟨h.case,h.clt,h.word,h.len,h.rows,fun k hk q hq=>by
  obtain ⟨u,h1,h2,h3⟩:=h.at' k hk q hq
  exact ⟨u,Nat.lt_of_lt_of_le h1 hp.length_le,h2,by rw[nthL_prefix hp h1];exact h3⟩⟩
structure RunOK (n K:Nat) (cs:List CaseD) (a:List (List Int)×List ExecD):Prop where
 ex:∀x∈a.2,∃c,ExOK n K cs a.1 x c
 occ:∀v,v<a.1.length→∃x∈a.2,∃k,k≤K∧∃q,q<n∧nth (nthL x.vs k) q=(v:Nat)
 nodup:a.1.Nodup
 refs:Refs a.1
theorem RunOK.step {n K:Nat} {cs:List CaseD} {a:List (List Int)×List ExecD} (h:RunOK n K cs a) (x:Nat×List (List Int)) (hx:x.1<cs.length∧x.2.length=K):RunOK n K cs (stepE n cs a x):=by
 have hp:=playV_ok n (nthC cs x.1).inn x.2 a.1 x.2.length
 rw[hx.2]at hp
 unfold stepE
 rw[hx.2]
 generalize playV n (nthC cs x.1).inn x.2 a.1 K=P at hp ⊢
 refine ⟨fun y hy=>?_,fun v hv=>?_,hp.nodup h.nodup,hp.refs h.refs⟩
 ·rcases List.mem_append.1 hy with hy | hy
  ·obtain ⟨c,hc⟩:=h.ex y hy
   exact ⟨c,hc.grow hp.pre⟩
  ·rw[List.mem_singleton.1 hy]
   exact ⟨x.1,rfl,hx.1,hx.2,hp.len,hp.rows,hp.at'⟩
 ·rcases hp.new v hv with h1 | ⟨k,h1,q,h2,h3⟩
  ·obtain ⟨y,hy,hr⟩:=h.occ v h1
   exact ⟨y,List.mem_append_left _ hy,hr⟩
  ·exact ⟨_,List.mem_append_right _ (List.mem_singleton.2 rfl),k,h1,q,h2,h3⟩
theorem runE_ok {n K:Nat} {cs:List CaseD} {l:List (Nat×List (List Int))} (h:∀x∈l,x.1<cs.length∧x.2.length=K):RunOK n K cs (runE n cs l):=by
 have key:∀(l:List (Nat×List (List Int))) (a:List (List Int)×List ExecD),RunOK n K cs a→(∀x∈l,x.1<cs.length∧x.2.length=K)→RunOK n K cs (l.foldl (stepE n cs) a):=by
  intro l
  induction l with
  | nil=>intro a h _;exact h
  | cons x r ih=>intro a h hx;rw[List.foldl_cons];exact ih _ (h.step x (hx x (by simp))) fun y hy=>hx y (by simp[hy])
 exact key l _ ⟨fun x hx=>by simp at hx,fun v hv=>by simp at hv,by simp,fun v hv=>by simp at hv⟩ h
theorem runE_words (n:Nat) (cs:List CaseD) (l:List (Nat×List (List Int))):(runE n cs l).2.map (fun x=>(x.case,x.word))=l.map fun x=>((x.1:Int),x.2):=by
 have key:∀(l:List (Nat×List (List Int))) (a:List (List Int)×List ExecD),(l.foldl (stepE n cs) a).2.map (fun x=>(x.case,x.word))=a.2.map (fun x=>(x.case,x.word))++l.map fun x=>((x.1:Int),x.2):=by
  intro l
  induction l with
  | nil=>intro a;simp
  | cons x r ih=>intro a;rw[List.foldl_cons,ih];simp[stepE,ExecD.case,ExecD.word]
 have:=key l ([],[])
 unfold runE
 rw[this];rfl
structure GoodS (s:SysF) (N K:Nat):Prop where
 pok:ProbOK s.p N
 tn:s.tn=N
 rnd:s.p.rounds=K
 K6:K≤6
 ex:∀e,e<s.ex.length→∃c,ExOK N K s.p.cs s.tab (nthX s.ex e) c
 words:∀e,e<s.ex.length→∀k,k<K→RoundOK N (nthL (nthX s.ex e).word k)
 occ:∀v,v<s.tab.length→∃e,e<s.ex.length∧∃k,k≤K∧∃q,q<N∧nth (nthL (nthX s.ex e).vs k) q=(v:Nat)
 nodup:s.tab.Nodup
 refs:Refs s.tab
 num:s.ex.length=s.p.num
theorem good_of {s:SysF} (h:verE s=0) (h8:Moves8 s.p.st):∃N K,GoodS s N K:=by
 unfold verE at h
 by_cases h0:buildE s.p=0
 case neg=>rw[if_neg h0]at h;exact absurd h h0
 rw[if_pos h0]at h
 by_cases h1:s.tn=s.p.n∧s.tab=s.p.sys.1∧s.ex=s.p.sys.2
 case neg=>rw[if_neg h1]at h;cases h
 have hz:checkPr s.p=0:=by
  unfold buildE at h0
  by_cases hc:checkPr s.p=0
  ·exact hc
  ·rw[if_neg hc]at h0;exact h0
 obtain ⟨N,hok⟩:=probOK hz
 obtain ⟨K,hK⟩:∃K:Nat,s.p.rounds=K:=⟨s.p.rounds.toNat,by have:=hok.r;omega⟩
 have eN:s.p.n.toNat=N:=by rw[hok.n];exact Int.toNat_natCast N
 have eK:s.p.rounds.toNat=K:=by rw[hK];exact Int.toNat_natCast K
 obtain ⟨h2,h3,h4⟩:=h1
 have hrun:RunOK N K s.p.cs (s.tab,s.ex):=by
  rw[h3,h4]
  have:=runE_ok (n:=N) (K:=K) (cs:=s.p.cs) (l:=s.p.pairs) fun x hx=>⟨s.p.pairs_case x hx,by rw[s.p.pairs_word x hx,eK]⟩
  unfold ProbD.sys
  rw[eN];exact this
 refine ⟨N,K,hok,by rw[h2,hok.n],hK,by have:=hok.r;omega,fun e he=>hrun.ex _ (nthX_mem he),fun e he k hk=>?_,fun v hv=>?_,hrun.nodup,hrun.refs,?_⟩
 ·have hm:=runE_words s.p.n.toNat s.p.cs s.p.pairs
  have hx:((nthX s.ex e).case,(nthX s.ex e).word)∈s.p.pairs.map fun x=>((x.1:Int),x.2):=by
   rw[←hm];exact List.mem_map.2 ⟨_,by have:=nthX_mem he;rw[h4]at this ⊢;exact this,rfl⟩
  obtain ⟨x,hx,he2⟩:=List.mem_map.1 hx
  have e2:x.2=(nthX s.ex e).word:=congrArg Prod.snd he2
  unfold ProbD.pairs pairsW at hx
  obtain ⟨i,hi,hx⟩:=List.mem_flatMap.1 hx
  obtain ⟨w,hw,rfl⟩:=List.mem_map.1 hx
  obtain ⟨c,hc⟩:=hrun.ex _ (nthX_mem he)
  have h5:=hok.words h8 s.p.rounds.toNat w hw (nthL w k) (nthL_mem (by have:=hc.word;rw[←e2]at this;dsimp only at this;omega))
  rw[hok.n]at h5
  rw[←e2];exact h5
 ·obtain ⟨x,hx,hr⟩:=hrun.occ v hv
  obtain ⟨e,he,rfl⟩:=List.getElem_of_mem hx
  exact ⟨e,he,by rw[nthX_eq he];exact hr⟩
 ·rw[h4];unfold ProbD.sys;rw[runE_len];exact s.p.pairs_len
end Go.Proofs.YtaijafjfafbcfaaGreat
namespace Go.Proofs.YtaijafjfafbcfaaGreat
open Go.RowKit
attribute [local go_sem ↓] Go.wp_at_zero Go.wp_at_succ
structure TabV (N K:Nat) (T:List (List Int)) (v q k:Nat):Prop where
 ql:q<N
 kl:k≤K
 len:(nthL T v).length=8
 q0:nth (nthL T v) 0=q
 k0:nth (nthL T v) 1=k
 zero:k=0→∀j,j<5→nth (nthL T v) (3+j)= -1
 heard:∀j,j<5→nth (nthL T v) (3+j)= -1∨∃u:Nat,u<v∧nth (nthL T v) (3+j)=u∧j<N∧nth (nthL T u) 0=j∧nth (nthL T u) 1=((k - 1:Nat):Int)∧0<k
 own:0<k→∃u:Nat,u<v∧nth (nthL T v) (3+q)=u
def TabOK (N K:Nat) (T:List (List Int)):Prop:=N≤5∧∀v,v<T.length→∃q k,TabV N K T v q k
theorem vwE_head (n:Nat) (inn:List Int) (word vs:List (List Int)) (k q:Nat):nth (vwE n inn word vs k q) 0=q∧nth (vwE n inn word vs k q) 1=k∧(vwE n inn word vs k q).length=8:=by
 cases k with
 | zero=>exact ⟨rfl,rfl,rfl⟩
 | succ k=>exact ⟨rfl,rfl,rfl⟩
theorem GoodS.view {s:SysF} {N K:Nat} (h:GoodS s N K) {e k q:Nat} (he:e<s.ex.length) (hk:k≤K) (hq:q<N):
  ∃v:Nat,v<s.tab.length∧nth (nthL (nthX s.ex e).vs k) q=v∧TabV N K s.tab v q k:=by
 obtain ⟨c,hx⟩:=h.ex e he
 have hN:=h.pok.n1
 obtain ⟨v,hv,h1,h2⟩:=hx.at' k hk q hq
 have hr:=h.refs v hv
 obtain ⟨d0,d1,d2⟩:=vwE_head N (nthC s.p.cs c).inn (nthX s.ex e).word (nthX s.ex e).vs k q
 rw[←h2]at d0 d1 d2
 refine ⟨v,hv,h1,hq,hk,d2,d0,d1,fun h0 j hj=>?_,fun j hj=>?_,fun h0=>?_⟩
 ·subst h0
  rw[h2];exact nth_firstV hj
 ·cases k with
  | zero=>left;rw[h2];exact nth_firstV hj
  | succ k=>
   have e1:nth (nthL s.tab v) (3+j)=heardV (nthL (nthX s.ex e).word k) N q (nthL (nthX s.ex e).vs k) j:=by rw[h2];exact nth_seenV hj
   have hlt:=hr j hj
   rw[e1]at hlt ⊢
   unfold heardV at hlt ⊢
   by_cases hc:j<N∧(nth (nthL (nthX s.ex e).word k) (q+1)).toNat.testBit j=true
   ·right
    rw[if_pos hc]at hlt ⊢
    obtain ⟨u,hu,h3,h4⟩:=hx.at' k (by omega) j hc.1
    obtain ⟨f0,f1,_⟩:=vwE_head N (nthC s.p.cs c).inn (nthX s.ex e).word (nthX s.ex e).vs k j
    rw[←h4]at f0 f1
    exact ⟨u,by omega,h3,hc.1,f0,by rw[f1];simp,by omega⟩
   ·left;rw[if_neg hc]
 ·cases k with
  | zero=>omega
  | succ k=>
   have e1:nth (nthL s.tab v) (3+q)=heardV (nthL (nthX s.ex e).word k) N q (nthL (nthX s.ex e).vs k) q:=by rw[h2];exact nth_seenV (by omega)
   have hlt:=hr q (by omega)
   rw[e1]at hlt ⊢
   have hb:=((h.words e he k (by omega)).big q (by omega)).1
   unfold heardV at hlt ⊢
   rw[if_pos ⟨hq,hb⟩]at hlt ⊢
   obtain ⟨u,hu,h3,h4⟩:=hx.at' k (by omega) q hq
   exact ⟨u,by omega,h3⟩
theorem GoodS.tab {s:SysF} {N K:Nat} (h:GoodS s N K):TabOK N K s.tab:=by
 refine ⟨h.pok.n1.2,fun v hv=>?_⟩
 obtain ⟨e,he,k,hk,q,hq,h1⟩:=h.occ v hv
 obtain ⟨u,hu,h2,h3⟩:=h.view he hk hq
 have:u=v:=by omega
 subst this
 exact ⟨q,k,h3⟩
end Go.Proofs.YtaijafjfafbcfaaGreat
namespace Go.Proofs.YtaijafjfafbcfaaGreat
open Go.RowKit
attribute [local go_sem ↓] Go.wp_at_zero Go.wp_at_succ
def fltyW (word:List (List Int)):Int:=if word.length=0 then 0 else nth (nthL word (word.length - 1)) 6
def maskW (N:Nat) (word:List (List Int)):Nat:=without (2 ^ N - 1) (fltyW word).toNat
theorem GoodS.flty {s:SysF} {N K:Nat} (h:GoodS s N K) {e:Nat} (he:e<s.ex.length):∃f:Nat,fltyW (nthX s.ex e).word=f∧f<2 ^ N:=by
 obtain ⟨c,hx⟩:=h.ex e he
 unfold fltyW
 rw[hx.word]
 by_cases h0:K=0
 ·rw[if_pos h0];exact ⟨0,rfl,Nat.pow_pos (by decide)⟩
 ·rw[if_neg h0]
  have h1:=(h.words e he (K - 1) (by omega)).f
  rw[Int.toNat_natCast]at h1
  exact ⟨(nth (nthL (nthX s.ex e).word (K - 1)) 6).toNat,by omega,by omega⟩
theorem rfaulty_calls {S:Nat→Prop} {w:World} {wa va:Option Addr} {wc vn vc:Nat} {word:List (List Int)} (c:Int) (h:Sl (kFlat 7) S w (.slice wa word.length wc) word):
  Calls Tryz.prog 109 #[.agg #[.int .i64 c,.slice wa word.length wc,.slice va vn vc]] w (Post w fun _ r=>r=.int .i64 (fltyW word)):=by
 have ex:=ext_alloc w (.cells #[.int .i64 c,.slice wa word.length wc,.slice va vn vc] 81)
 have R1:=row_new w [.int .i64 c,.slice wa word.length wc,.slice va vn vc] 81
 have c1:=R1.cell (j:=1) rfl
 have l1:=R1.lt
 by_cases h0:word.length=0
 ·have RR:Hid (fltyW word=0):=Lib.hid (by unfold fltyW;rw[if_pos h0])
  have d1:((word.length:Int)==0)=true:=by simp[h0]
  clear h h0
  go_enter Tryz.func109,Tryz.ntmps109
  go_wp2
  go_ret
  exact .mk ex (int_eq RR.out.symm)
 ·have RR:Hid (fltyW word=nth (nthL word (word.length - 1)) 6):=Lib.hid (by unfold fltyW;rw[if_neg h0])
  obtain ⟨m,hm⟩:∃m,word.length=m+1:=⟨word.length - 1,by omega⟩
  obtain ⟨_,_,he,ad,_⟩:=h.form2
  cases he
  have q1:=idx_word ad m (by omega)
  have z:=(h.nums (k:=m) (by omega) (by decide)).2 6 (by decide)
  have bk:=World.block_lt_of_cell? _ _ z
  rw[hm,Nat.add_sub_cancel]at RR
  obtain ⟨x,hx⟩:∃x,x=nth (nthL word m) 6:=⟨_,rfl⟩
  rw[←hx]at z RR
  obtain ⟨L,hL⟩:∃L,L=word.length:=⟨_,rfl⟩
  rw[←hL]at ex R1 c1 l1 q1 ⊢
  have hml:(L:Int)≤140737488355328:=by have:=h.few;omega
  have d1:((L:Int)==0)=false:=by simp;omega
  have d2:((L:Int) - 1)=(m:Int):=by omega
  clear hL
  clear h h0 hm ad hx
  go_enter Tryz.func109,Tryz.ntmps109
  go_wp2
  go_ret
  exact .mk ex (int_eq RR.out.symm)
theorem pow_sub {N:Nat}:((2 ^ N:Nat):Int) - 1=((2 ^ N - 1:Nat):Int):=by
 have:=Nat.pow_pos (n:=N) (show 0<2 by decide)
 omega
theorem mask_nat {N f:Nat} (hN:N≤5) (hf:f<2 ^ N):bits .andNot .i64 (((2 ^ N:Nat):Int) - 1) (f:Int)=((without (2 ^ N - 1) f:Nat):Int):=by
 have:=Nat.pow_le_pow_right (n:=2) (by decide) hN
 rw[pow_sub]
 exact andNot_nat (by omega) (by omega)
theorem rmask_calls {S:Nat→Prop} {w:World} {v:Value} {s:SysF} {N K e:Nat} (h:SysV S w v s) (hg:GoodS s N K) (he:e<s.ex.length):
  Calls Tryz.prog 84 #[v,.int .i64 e] w (Post w fun _ r=>r=.int .i64 (maskW N (nthX s.ex e).word)):=by
 obtain ⟨vc,vs,vt,vx,rfl,hc,hs,ht,hx⟩:=h
 obtain ⟨ca,cc,rfl,_⟩:=hc.form
 obtain ⟨sa,sc,rfl,_⟩:=hs.form
 obtain ⟨ta,tc,rfl,_⟩:=ht.form
 obtain ⟨xa,xc,rfl,xad,_⟩:=hx.form2
 have hN:=hg.pok.n1.2
 obtain ⟨f,hf,hf2⟩:=hg.flty he
 have HM:Hid (((maskW N (nthX s.ex e).word:Nat):Int)=bits .andNot .i64 (((2 ^ N:Nat):Int) - 1) (fltyW (nthX s.ex e).word)):=Lib.hid (by rw[hf,mask_nat hN hf2];unfold maskW;rw[hf,Int.toNat_natCast])
 have htn:=hg.tn
 have KU:=Lib.hid fun W=>((rfull_quiet W hN).mono fun _ _ h=>h.take)
 have q1:=idx_exec xad e he
 have ex:=ext_alloc w (.cells #[.int .i64 s.p.n,.int .i64 s.p.ins,.int .i64 s.p.outs,.slice ca s.p.cs.length cc,.int .i64 s.p.an,.slice sa s.p.st.length sc,.int .i64 s.p.rounds,.int .i64 s.tn,.slice ta s.tab.length tc,.slice xa s.ex.length xc] 35)
 have R0:=row_new w [.int .i64 s.p.n,.int .i64 s.p.ins,.int .i64 s.p.outs,.slice ca s.p.cs.length cc,.int .i64 s.p.an,.slice sa s.p.st.length sc,.int .i64 s.p.rounds,.int .i64 s.tn,.slice ta s.tab.length tc,.slice xa s.ex.length xc] 35
 rw[htn]at R0 ex ⊢
 have t7:=R0.cell (j:=7) rfl
 have t9:=R0.cell (j:=9) rfl
 have l0:=R0.lt
 obtain ⟨a1,c1,a2,c2,z0,z1,z2,i1,i2⟩:=hx.exec he
 have bk:=World.block_lt_of_cell? _ _ z0
 have KY:Hid (∀W,Below w.heap.size w W→Calls Tryz.prog 109 #[.agg #[.int .i64 (nthX s.ex e).case,.slice a1 (nthX s.ex e).word.length c1,.slice a2 (nthX s.ex e).vs.length c2]] W (Post W fun _ r=>r=.int .i64 (fltyW (nthX s.ex e).word))):=Lib.hid fun W hW=>rfaulty_calls _ (i1.ext hW)
 obtain ⟨x,hxx⟩:∃x,x=nthX s.ex e:=⟨_,rfl⟩
 rw[←hxx]at z0 z1 z2 KY HM ⊢
 have z0':=cell_ext z0 ex
 have z1':=cell_ext z1 ex
 have z2':=cell_ext z2 ex
 clear hc hs ht hx xad hg hf hf2 htn hxx i1 i2 z0 z1 z2
 go_enter Tryz.func84,Tryz.ntmps84
 go_wp2
 obtain ⟨w1,hw1⟩:∃w1,w1=w.alloc (.cells #[.int .i64 s.p.n,.int .i64 s.p.ins,.int .i64 s.p.outs,.slice ca s.p.cs.length cc,.int .i64 s.p.an,.slice sa s.p.st.length sc,.int .i64 s.p.rounds,.int .i64 (N:Int),.slice ta s.tab.length tc,.slice xa s.ex.length xc] 35):=⟨_,rfl⟩
 rw[←hw1]at ex t7 t9 l0 z0' z1' z2' ⊢
 have bk1:=World.block_lt_of_cell? _ _ z0'
 replace KY:Hid (∀W,Below w1.heap.size w1 W→Calls Tryz.prog 109 #[.agg #[.int .i64 x.case,.slice a1 x.word.length c1,.slice a2 x.vs.length c2]] W (Post W fun _ r=>r=.int .i64 (fltyW x.word))):=Lib.hid fun W hW=>KY.out W (ext_trans ex hW)
 have KEEP:Hid (∀w',Below w1.heap.size w1 w'→(fun w':World=>w'.cell? ⟨w.heap.size,7,none⟩=some (.int .i64 N)∧w'.cell? ⟨w.heap.size,9,none⟩=some (.slice xa s.ex.length xc)∧w'.cell? (adr xa (e * 3))=some (.int .i64 x.case)∧w'.cell? ⟨(adr xa (e * 3)).block,(adr xa (e * 3)).off+1,none⟩=some (.slice a1 x.word.length c1)∧w'.cell? ⟨(adr xa (e * 3)).block,(adr xa (e * 3)).off+2,none⟩=some (.slice a2 x.vs.length c2)) w'):=Lib.hid fun w' hw=>⟨cell_ext t7 hw,cell_ext t9 hw,cell_ext z0' hw,cell_ext z1' hw,cell_ext z2' hw⟩
 clear hw1 R0 t7 t9 z0' z1' z2'
 refine region_E (fun w':World=>w'.cell? ⟨w.heap.size,7,none⟩=some (.int .i64 N)∧w'.cell? ⟨w.heap.size,9,none⟩=some (.slice xa s.ex.length xc)∧w'.cell? (adr xa (e * 3))=some (.int .i64 x.case)∧w'.cell? ⟨(adr xa (e * 3)).block,(adr xa (e * 3)).off+1,none⟩=some (.slice a1 x.word.length c1)∧w'.cell? ⟨(adr xa (e * 3)).block,(adr xa (e * 3)).off+2,none⟩=some (.slice a2 x.vs.length c2)) (fun i=>false) (by kernel_rfl) ?_ (fun hHeld=>?_)
 ·exact KEEP.out _ (drewN_below _ _ 1)
 refine anyE_take 0 (v:=?_) rfl (by kernel_rfl) (fun _ _ _ h=>h) (by rfl) ?hy0 hHeld ?rest0
 case hy0=>(intro w hSw;(try dsimp only at hSw);go_simp;try with_reducible rfl)
 try simp only[Act.put,zsa,zsz,zss]
 refine anyE_take 1 (v:=?_) rfl (by kernel_rfl) (fun _ _ _ h=>h) (by rfl) ?hy1 hHeld ?rest1
 case hy1=>(intro w hSw;(try dsimp only at hSw);go_simp;try with_reducible rfl)
 try simp only[Act.put,zsa,zsz,zss]
 refine anyE_take 2 (v:=?_) rfl (by kernel_rfl) (fun _ _ _ h=>h) (by rfl) ?hy2 hHeld ?rest2
 case hy2=>(intro w hSw;(try dsimp only at hSw);go_simp;try with_reducible rfl)
 try simp only[Act.put,zsa,zsz,zss]
 refine anyE_take 4 (v:=?_) rfl (by kernel_rfl) (fun _ _ _ h=>h) (by rfl) ?hy4 hHeld ?rest4
 case hy4=>(intro w hSw;(try dsimp only at hSw);go_simp;try with_reducible rfl)
 try simp only[Act.put,zsa,zsz,zss]
 refine anyE_take 5 (v:=?_) rfl (by kernel_rfl) (fun _ _ _ h=>h) (by rfl) ?hy5 hHeld ?rest5
 case hy5=>(intro w hSw;(try dsimp only at hSw);go_simp;try with_reducible rfl)
 try simp only[Act.put,zsa,zsz,zss]
 refine anyE_take 6 (v:=?_) rfl (by kernel_rfl) (fun _ _ _ h=>h) (by rfl) ?hy6 hHeld ?rest6
 case hy6=>(intro w hSw;(try dsimp only at hSw);go_simp;try with_reducible rfl)
 try simp only[Act.put,zsa,zsz,zss]
 refine anyE_take 7 (v:=?_) rfl (by kernel_rfl) (fun _ _ _ h=>h) (by rfl) ?hy7 hHeld ?rest7
 case hy7=>(intro w hSw;(try dsimp only at hSw);go_simp;try with_reducible rfl)
 try simp only[Act.put,zsa,zsz,zss]
 refine anyE_take 8 (v:=?_) rfl (by kernel_rfl) (fun _ _ _ h=>h) (by rfl) ?hy8 hHeld ?rest8
 case hy8=>(intro w hSw;(try dsimp only at hSw);go_simp;try with_reducible rfl)
 try simp only[Act.put,zsa,zsz,zss]
 refine anyE_one 3 rfl (by kernel_rfl) (fun K hK=>?_)
 go_simp;go_at_call 108;refine (KU.out _).mono ?_;rintro _ w2 ⟨_,rfl,hb2,rfl⟩;have y2:=ext_trans (drewN_below _ _ 1) hb2.ext;clear hb2
 refine hK.out _ _ (fun _=>KEEP.out _ y2) (fun hHeld=>?_);replace hHeld:=hHeld rfl
 clear hK K
 try simp only[Act.put,zsa,zsz,zss]
 refine anyE_one 9 rfl (by kernel_rfl) (fun K hK=>?_)
 go_simp;go_at_call 109;refine (KY.out _ y2).mono ?_;rintro _ w3 ⟨_,rfl,hb3,rfl⟩;have y3:=ext_trans y2 hb3;clear hb3
 refine hK.out _ _ (fun _=>KEEP.out _ y3) (fun hHeld=>?_);replace hHeld:=hHeld rfl
 clear hK K
 try simp only[Act.put,zsa,zsz,zss]
 refine anyE_take 10 (v:=?_) rfl (by kernel_rfl) (fun _ _ _ h=>h) (by rfl) ?hy10 hHeld ?rest10
 case hy10=>(intro w hSw;(try dsimp only at hSw);go_simp;try with_reducible rfl)
 try simp only[Act.put,zsa,zsz,zss]
 refine anyE_take 11 (v:=?_) rfl (by kernel_rfl) (fun _ _ _ h=>h) (by rfl) ?hy11 hHeld ?rest11
 case hy11=>(intro w hSw;(try dsimp only at hSw);go_simp;try with_reducible rfl)
 try simp only[Act.put,zsa,zsz,zss]
 refine anyE_done (by kernel_rfl) ?_ _
 clear hHeld KEEP KY KU
 go_wp2
 go_ret
 exact .mk (ext_trans ex y3) (int_eq HM.out.symm)
end Go.Proofs.YtaijafjfafbcfaaGreat
namespace Go.Proofs.YtaijafjfafbcfaaGreat
open Go.RowKit
attribute [local go_sem ↓] Go.wp_at_zero Go.wp_at_succ
theorem maskW_lt {N:Nat} (hN:N≤5) (word:List (List Int)):maskW N word<4294967296:=by
 have:=Nat.pow_le_pow_right (n:=2) (by decide) hN
 exact without_lt (by omega)
end Go.Proofs.YtaijafjfafbcfaaGreat
namespace Go.Proofs.YtaijafjfafbcfaaGreat
open Go.RowKit
attribute [local go_sem ↓] Go.wp_at_zero Go.wp_at_succ
def rndT (T:List (List Int)) (v:Nat):Nat:=(nth (nthL T v) 1).toNat
theorem TabV.rnd {N K:Nat} {T:List (List Int)} {v q k:Nat} (h:TabV N K T v q k):rndT T v=k:=by unfold rndT;rw[h.k0];exact Int.toNat_natCast k
end Go.Proofs.YtaijafjfafbcfaaGreat
namespace Go.Proofs.YtaijafjfafbcfaaGreat
open Go.RowKit
attribute [local go_sem ↓] Go.wp_at_zero Go.wp_at_succ
end Go.Proofs.YtaijafjfafbcfaaGreat
namespace Go.Proofs.YtaijafjfafbcfaaGreat
open Go.RowKit
attribute [local go_sem ↓] Go.wp_at_zero Go.wp_at_succ
theorem Ints.cellN {S:Nat→Prop} {w:World} {a:Option Addr} {c n:Nat} {l:List Int} (h:Ints S w (.slice a n c) l) {k:Nat} (hk:k<l.length):w.cell? (adr a k)=some (.int .i64 (nth l k)):=by
 obtain ⟨_,_,he,_⟩:=h.form
 cases he
 have cc0:=ints_cells h (.refl _ _) k hk
 have hcv:(l.map (Value.int .i64)).getD k undef=.int .i64 (nth l k):=by rw[List.getD_eq_getElem?_getD,List.getElem?_map,get?_nth hk];rfl
 rw[hcv]at cc0
 exact cc0
theorem Ints.idx {S:Nat→Prop} {w:World} {a:Option Addr} {c n:Nat} {l:List Int} (h:Ints S w (.slice a n c) l) {k:Nat} (hk:k<l.length) (W:World):(Instr.indexAt 44 (.slice a n c) (.int .i64 k)).run Tryz.prog W=.ok (.pointer (some (adr a k))) W:=by
 obtain ⟨_,_,he,ad,_⟩:=h.form
 cases he
 obtain ⟨i0,hi,_,hz1,_⟩:=info_parts info_int
 exact idx_one Tryz.underlying44 hi hz1 ad k hk W
end Go.Proofs.YtaijafjfafbcfaaGreat
namespace Go.Proofs.YtaijafjfafbcfaaGreat
open Go.RowKit
attribute [local go_sem ↓] Go.wp_at_zero Go.wp_at_succ
def RuleV (S:Nat→Prop) (w:World) (v:Value) (l:List Int):Prop:=∃u,v=.agg #[u]∧Ints S w u l
theorem RuleV.ext {S:Nat→Prop} {w w':World} {v:Value} {l:List Int} (h:RuleV S w v l) (hw:Below w.heap.size w w'):RuleV S w' v l:=by
 obtain ⟨u,rfl,hu⟩:=h
 exact ⟨u,rfl,hu.ext hw⟩
theorem RuleV.mono {S S':Nat→Prop} {w:World} {v:Value} {l:List Int} (h:RuleV S w v l) (hS:∀b,S b→S' b):RuleV S' w v l:=by
 obtain ⟨u,rfl,hu⟩:=h
 exact ⟨u,rfl,hu.mono hS⟩
theorem row_under {W W':World} {g base:Nat} {xs:List Value} {e:TypeId} (R:Row W g e xs) (hg:g<base) (h:Below base W W'):Row W' g e xs:=R.agree (S:=fun b=>b=g) (.of_below h fun b hb _=>by omega) rfl
end Go.Proofs.YtaijafjfafbcfaaGreat
namespace Go.Proofs.YtaijafjfafbcfaaGreat
open Go.RowKit
attribute [local go_sem ↓] Go.wp_at_zero Go.wp_at_succ
def SysF.N (s:SysF):Nat:=s.p.n.toNat
def SysF.K (s:SysF):Nat:=s.p.rounds.toNat
theorem good_sys {s:SysF} (h:verE s=0) (h8:Moves8 s.p.st):GoodS s s.N s.K:=by
 obtain ⟨N,K,hg⟩:=good_of h h8
 have e1:s.N=N:=by unfold SysF.N;rw[hg.pok.n];exact Int.toNat_natCast N
 have e2:s.K=K:=by unfold SysF.K;rw[hg.rnd];exact Int.toNat_natCast K
 rw[e1,e2];exact hg
end Go.Proofs.YtaijafjfafbcfaaGreat
namespace Go.Proofs.YtaijafjfafbcfaaGreat
open Go.RowKit
attribute [local go_sem ↓] Go.wp_at_zero Go.wp_at_succ
end Go.Proofs.YtaijafjfafbcfaaGreat
namespace Go.Proofs.YtaijafjfafbcfaaGreat
open Go.RowKit
attribute [local go_sem ↓] Go.wp_at_zero Go.wp_at_succ
end Go.Proofs.YtaijafjfafbcfaaGreat
namespace Go.Proofs.YtaijafjfafbcfaaGreat
open Go.RowKit
attribute [local go_sem ↓] Go.wp_at_zero Go.wp_at_succ
end Go.Proofs.YtaijafjfafbcfaaGreat
namespace Go.Proofs.YtaijafjfafbcfaaGreat
open Go.RowKit
attribute [local go_sem ↓] Go.wp_at_zero Go.wp_at_succ
def finL (s:SysF) (e:Nat):List Int:=nthL (nthX s.ex e).vs s.K
theorem GoodS.rndK {s:SysF} {N K:Nat} (h:GoodS s N K):K=s.K:=by unfold SysF.K;rw[h.rnd];exact (Int.toNat_natCast K).symm
theorem GoodS.fin {s:SysF} {N K:Nat} (h:GoodS s N K) {e:Nat} (he:e<s.ex.length):(finL s e).length=N∧∀q,q<N→∃z:Nat,nth (finL s e) q=z∧z<s.tab.length:=by
 unfold finL
 rw[←h.rndK]
 obtain ⟨c,hc⟩:=h.ex e he
 exact ⟨hc.rows K (Nat.le_refl _),fun q hq=>by obtain ⟨v,h1,h2,_⟩:=h.view he (Nat.le_refl K) hq;exact ⟨v,h2,h1⟩⟩
end Go.Proofs.YtaijafjfafbcfaaGreat
namespace Go.Proofs.YtaijafjfafbcfaaGreat
open Go.RowKit
attribute [local go_sem ↓] Go.wp_at_zero Go.wp_at_succ
theorem SysV.moves8 {S:Nat→Prop} {w:World} {v:Value} {s:SysF} (h:SysV S w v s):Moves8 s.p.st:=by obtain ⟨_,_,_,_,_,_,hs,_⟩:=h;exact moves8_of hs
end Go.Proofs.YtaijafjfafbcfaaGreat
namespace Go.Proofs.YtaijafjfafbcfaaGreat
open Go.RowKit
attribute [local go_sem ↓] Go.wp_at_zero Go.wp_at_succ
def minT (f:Nat→Bool):Nat→Nat→Int
 | _,0=> -1
 | k,n+1=>if f k then k else minT f (k+1) n
theorem SysV.num {S:Nat→Prop} {w:World} {v:Value} {s:SysF} (h:SysV S w v s):s.tab.length≤maxLen∧s.ex.length≤maxLen:=by
 obtain ⟨vc,vs,vt,vx,rfl,hc,hs,ht,hx⟩:=h
 exact ⟨ht.len,hx.len⟩
end Go.Proofs.YtaijafjfafbcfaaGreat
namespace Go.Proofs.YtaijafjfafbcfaaGreat
open Go.RowKit
attribute [local go_sem ↓] Go.wp_at_zero Go.wp_at_succ
def oblB (s:SysF) (e q:Nat):Bool:=(maskW s.N (nthX s.ex e).word).testBit q
end Go.Proofs.YtaijafjfafbcfaaGreat
