/- Part of the proof that the laws answer true for every input. -/
import Derived.Test.YtiabbjolepnjkaaGreatPMaA14
import Derived.ProofKit
import Derived.OpenShut
import Derived.ShutString
import Derived.ChangeOld
import Derived.Below
import Derived.Lib.SmallJoins
import Derived.LaidMore
import Derived.SizedLaws
import Derived.Test.YtiabbjolepnjkaaGreatRows
set_option linter.unusedSimpArgs false
set_option linter.unnecessarySimpa false
set_option linter.unusedVariables false
set_option maxRecDepth 100000
set_option maxHeartbeats 40000000
namespace Go.Proofs.YtiabbjolepnjkaaGreat
theorem qI {t t':List (List Int)} (h:t<+:t') {v:Nat} (hv:v<t.length):nthL t' v=nthL t v:=by
 obtain ⟨r,rfl⟩:=h;simp[nthL,List.getElem?_append_left hv]
theorem zdi {l r:List Int} {i:Nat} (h:i<l.length):nth (l++r) i=nth l i:=by simp[nth,List.getElem?_append_left h]
theorem zbT {l:List Int} {x:Int}:nth (l++[x]) l.length=x:=by simp[nth]
theorem QI {l r:List (List Int)} {i:Nat} (h:i<l.length):nthL (l++r) i=nthL l i:=qI (List.prefix_append _ _) h
theorem zaG {l:List (List Int)} {x:List Int}:nthL (l++[x]) l.length=x:=by simp[nthL]
def Refs (t:List (List Int)):Prop:=∀v,v<t.length→∀j,j<5→nth (nthL t v) (3+j)<v
theorem Refs.add {t:List (List Int)} {x:List Int} (h:Refs t) (hx:∀j,j<5→nth x (3+j)<t.length):Refs (addV t x):=by
 unfold addV;split
 ·exact h
 ·intro v hv j hj;rw[List.length_append,List.length_singleton]at hv;by_cases e:v<t.length
  ·rw[QI e];exact h v e j hj
  ·have e2:v=t.length:=by omega
   subst e2;rw[zaG];exact hx j hj
theorem zbp (mk:Nat→List Int) (t:List (List Int)):∀q i,i<q→∃u:Nat,u<(layV mk t q).1.length∧nth (layV mk t q).2 i=u∧nthL (layV mk t q).1 u=mk i
 | 0,i,h=>by omega
 | q+1,i,h=>by
  unfold layV;have hl:=yc mk t q;by_cases e:i<q
  ·obtain ⟨u,h1,h2,h3⟩:=zbp mk t q i e;have hp:=Yv (layV mk t q).1 (mk q);exact ⟨u,Nat.lt_of_lt_of_le h1 hp.length_le,by rw[zdi (by omega)];exact h2,by rw[qI hp h1];exact h3⟩
  ·have e2:i=q:=by omega
   subst e2;refine ⟨idxV (layV mk t i).1 (mk i),zgg _ _,?_,zfx _ _⟩;have:=zbT (l:=(layV mk t i).2) (x:=((idxV (layV mk t i).1 (mk i):Nat):Int));rw[hl]at this;exact this
theorem QZ (mk:Nat→List Int) (t:List (List Int)):∀q v,v<(layV mk t q).1.length→v<t.length∨∃i,i<q∧nth (layV mk t q).2 i=(v:Nat)
 | 0,v,h=>.inl h
 | q+1,v,h=>by
  unfold layV at h ⊢;have hl:=yc mk t q;by_cases e:v<(layV mk t q).1.length
  ·rcases QZ mk t q v e with h1 | ⟨i,h1,h2⟩
   ·exact .inl h1
   ·exact .inr ⟨i,by omega,by rw[zdi (by omega)];exact h2⟩
  ·refine .inr ⟨q,by omega,?_⟩;have h3:=zcj (layV mk t q).1 (mk q);have h4:v=(layV mk t q).1.length:=by dsimp only at h;omega
   have h5:mk q∉(layV mk t q).1:=fun hm=>by
    unfold addV at h;rw[if_pos hm]at h;exact e h
   have:=zbT (l:=(layV mk t q).2) (x:=((idxV (layV mk t q).1 (mk q):Nat):Int));rw[hl]at this;rw[this,ZG h5,h4]
theorem ZQ (mk:Nat→List Int) {t:List (List Int)} (h:t.Nodup):∀q,(layV mk t q).1.Nodup
 | 0=>h
 | q+1=>by unfold layV;exact zcK (ZQ mk h q)
theorem Yg (mk:Nat→List Int) {t:List (List Int)} (h:Refs t):∀q,(∀i,i<q→∀j,j<5→nth (mk i) (3+j)<t.length)→Refs (layV mk t q).1
 | 0,_=>h
 | q+1,hm=>by
  unfold layV;refine (Yg mk h q fun i hi=>hm i (by omega)).add fun j hj=>?_;have h1:=hm q (by omega) j hj;have h2:=(qF mk t q).length_le;omega
def vwE (n:Nat) (inn:List Int) (word vs:List (List Int)):Nat→Nat→List Int
 | 0,q=>firstV q (nth inn q)
 | k+1,q=>seenV (nthL word k) n (k+1) q (nthL vs k)
structure PlayOK (n:Nat) (inn:List Int) (word t:List (List Int)) (K:Nat) (T vs:List (List Int)):Prop where
 pre:t<+:T
 len:vs.length=K+1
 rows:∀k,k≤K→(nthL vs k).length=n
 at':∀k,k≤K→∀q,q<n→∃u:Nat,u<T.length∧nth (nthL vs k) q=u∧nthL T u=vwE n inn word vs k q
 new:∀v,v<T.length→v<t.length∨∃k,k≤K∧∃q,q<n∧nth (nthL vs k) q=(v:Nat)
 nodup:t.Nodup→T.Nodup
 refs:Refs t→Refs T
theorem zdT {g prev:List Int} {n q r m:Nat} (h:∀q,q<n→nth prev q<(m:Int)):heardV g n q prev r<(m:Int):=by
 unfold heardV;split
 ·rename_i h1;exact h r h1.1
 ·omega
theorem YQ {g prev:List Int} {n k q j:Nat} (hj:j<5):nth (seenV g n k q prev) (3+j)=heardV g n q prev j:=by
 have:j=0∨j=1∨j=2∨j=3∨j=4:=by omega
 rcases this with rfl | rfl | rfl | rfl | rfl<;>rfl
theorem ZL {x:Int} {q j:Nat} (hj:j<5):nth (firstV q x) (3+j)= -1:=by
 have:j=0∨j=1∨j=2∨j=3∨j=4:=by omega
 rcases this with rfl | rfl | rfl | rfl | rfl<;>rfl
theorem zdU {n:Nat} {inn:List Int} {word vs r:List (List Int)} {k q:Nat} (h:k≤vs.length):vwE n inn word (vs++r) k q=vwE n inn word vs k q:=by
 cases k with
 | zero=>rfl
 | succ k=>show seenV (nthL word k) n (k+1) q (nthL (vs++r) k)=seenV (nthL word k) n (k+1) q (nthL vs k);rw[QI (by omega)]
theorem zch (n:Nat) (inn:List Int) (word t:List (List Int)):∀K,PlayOK n inn word t K (playV n inn word t K).1 (playV n inn word t K).2
 | 0=>by
  unfold playV;refine ⟨qF _ _ _,rfl,fun k hk=>?_,fun k hk q hq=>?_,fun v hv=>?_,fun h=>ZQ _ h _,fun h=>Yg _ h _ fun i hi j hj=>?_⟩
  ·have:k=0:=by omega
   subst this;exact yc _ _ _
  ·have:k=0:=by omega
   subst this;exact zbp (fun q=>firstV q (nth inn q)) t n q hq
  ·rcases QZ (fun q=>firstV q (nth inn q)) t n v hv with h | ⟨i,h1,h2⟩
   ·exact .inl h
   ·exact .inr ⟨0,Nat.le_refl _,i,h1,h2⟩
  ·rw[ZL hj];omega
 | K+1=>by
  have ih:=zch n inn word t K;unfold playV
  generalize (playV n inn word t K).1=T at ih ⊢
  generalize (playV n inn word t K).2=vs at ih ⊢
  have hpre:=qF (fun q=>seenV (nthL word K) n (K+1) q (nthL vs K)) T n;have hlen:=yc (fun q=>seenV (nthL word K) n (K+1) q (nthL vs K)) T n;have hat:=zbp (fun q=>seenV (nthL word K) n (K+1) q (nthL vs K)) T n;have hnew:=QZ (fun q=>seenV (nthL word K) n (K+1) q (nthL vs K)) T n;have hnd:T.Nodup→(layV (fun q=>seenV (nthL word K) n (K+1) q (nthL vs K)) T n).1.Nodup:=fun h=>ZQ _ h n;have hrf:Refs T→Refs (layV (fun q=>seenV (nthL word K) n (K+1) q (nthL vs K)) T n).1:=fun h=>Yg _ h n fun i hi j hj=>by
   rw[YQ hj];exact zdT fun q hq=>by obtain ⟨u,h1,h2,_⟩:=ih.at' K (Nat.le_refl _) q hq;omega
  generalize layV (fun q=>seenV (nthL word K) n (K+1) q (nthL vs K)) T n=L at hpre hlen hat hnew hnd hrf ⊢
  have hold:∀k,k≤K→nthL (vs++[L.2]) k=nthL vs k:=fun k hk=>QI (by have:=ih.len;omega);have hlast:nthL (vs++[L.2]) (K+1)=L.2:=by have:=zaG (l:=vs) (x:=L.2);rw[ih.len]at this;exact this
  refine ⟨ih.pre.trans hpre,by simp[ih.len],fun k hk=>?_,fun k hk q hq=>?_,fun v hv=>?_,fun h=>hnd (ih.nodup h),fun h=>hrf (ih.refs h)⟩
  ·by_cases e:k≤K
   ·rw[hold k e];exact ih.rows k e
   ·have:k=K+1:=by omega
    subst this;rw[hlast];exact hlen
  ·by_cases e:k≤K
   ·obtain ⟨u,h1,h2,h3⟩:=ih.at' k e q hq;exact ⟨u,Nat.lt_of_lt_of_le h1 hpre.length_le,by rw[hold k e];exact h2,by rw[qI hpre h1,zdU (by have:=ih.len;omega)];exact h3⟩
   ·have:k=K+1:=by omega
    subst this;obtain ⟨u,h1,h2,h3⟩:=hat q hq;exact ⟨u,h1,by rw[hlast];exact h2,by rw[zdU (by have:=ih.len;omega)];exact h3⟩
  ·rcases hnew v hv with h | ⟨i,h1,h2⟩
   ·rcases ih.new v h with h | ⟨k,h1,q,h2,h3⟩
    ·exact .inl h
    ·exact .inr ⟨k,by omega,q,h2,by rw[hold k h1];exact h3⟩
   ·exact .inr ⟨K+1,Nat.le_refl _,i,h1,by rw[hlast];exact h2⟩
structure ExOK (n K:Nat) (cs:List CaseD) (T:List (List Int)) (x:ExecD) (c:Nat):Prop where
 case:x.case=c
 clt:c<cs.length
 word:x.word.length=K
 len:x.vs.length=K+1
 rows:∀k,k≤K→(nthL x.vs k).length=n
 at':∀k,k≤K→∀q,q<n→∃u:Nat,u<T.length∧nth (nthL x.vs k) q=u∧nthL T u=vwE n (nthC cs c).inn x.word x.vs k q
theorem ExOK.grow {n K:Nat} {cs:List CaseD} {T T':List (List Int)} {x:ExecD} {c:Nat} (h:ExOK n K cs T x c) (hp:T<+:T'):ExOK n K cs T' x c:=
 ⟨h.case,h.clt,h.word,h.len,h.rows,fun k hk q hq=>by
  obtain ⟨u,h1,h2,h3⟩:=h.at' k hk q hq;exact ⟨u,Nat.lt_of_lt_of_le h1 hp.length_le,h2,by rw[qI hp h1];exact h3⟩⟩
structure RunOK (n K:Nat) (cs:List CaseD) (a:List (List Int)×List ExecD):Prop where
 ex:∀x∈a.2,∃c,ExOK n K cs a.1 x c
 occ:∀v,v<a.1.length→∃x∈a.2,∃k,k≤K∧∃q,q<n∧nth (nthL x.vs k) q=(v:Nat)
 nodup:a.1.Nodup
 refs:Refs a.1
theorem RunOK.step {n K:Nat} {cs:List CaseD} {a:List (List Int)×List ExecD} (h:RunOK n K cs a) (x:Nat×List (List Int)) (hx:x.1<cs.length∧x.2.length=K):RunOK n K cs (stepE n cs a x):=by
 have hp:=zch n (nthC cs x.1).inn x.2 a.1 x.2.length;rw[hx.2]at hp;unfold stepE;rw[hx.2]
 generalize playV n (nthC cs x.1).inn x.2 a.1 K=P at hp ⊢
 refine ⟨fun y hy=>?_,fun v hv=>?_,hp.nodup h.nodup,hp.refs h.refs⟩
 ·rcases List.mem_append.1 hy with hy | hy
  ·obtain ⟨c,hc⟩:=h.ex y hy;exact ⟨c,hc.grow hp.pre⟩
  ·rw[List.mem_singleton.1 hy];exact ⟨x.1,rfl,hx.1,hx.2,hp.len,hp.rows,hp.at'⟩
 ·rcases hp.new v hv with h1 | ⟨k,h1,q,h2,h3⟩
  ·obtain ⟨y,hy,hr⟩:=h.occ v h1;exact ⟨y,List.mem_append_left _ hy,hr⟩
  ·exact ⟨_,List.mem_append_right _ (List.mem_singleton.2 rfl),k,h1,q,h2,h3⟩
theorem zgm {n K:Nat} {cs:List CaseD} {l:List (Nat×List (List Int))} (h:∀x∈l,x.1<cs.length∧x.2.length=K):RunOK n K cs (runE n cs l):=by
 have key:∀(l:List (Nat×List (List Int))) (a:List (List Int)×List ExecD),RunOK n K cs a→(∀x∈l,x.1<cs.length∧x.2.length=K)→RunOK n K cs (l.foldl (stepE n cs) a):=by
  intro l;induction l with
  | nil=>intro a h _;exact h
  | cons x r ih=>intro a h hx;rw[List.foldl_cons];exact ih _ (h.step x (hx x (by simp))) fun y hy=>hx y (by simp[hy])
 exact key l _ ⟨fun x hx=>by simp at hx,fun v hv=>by simp at hv,by simp,fun v hv=>by simp at hv⟩ h
theorem zcA (n:Nat) (cs:List CaseD) (l:List (Nat×List (List Int))):(runE n cs l).2.map (fun x=>(x.case,x.word))=l.map fun x=>((x.1:Int),x.2):=by
 have key:∀(l:List (Nat×List (List Int))) (a:List (List Int)×List ExecD),(l.foldl (stepE n cs) a).2.map (fun x=>(x.case,x.word))=a.2.map (fun x=>(x.case,x.word))++l.map fun x=>((x.1:Int),x.2):=by
  intro l;induction l with
  | nil=>intro a;simp
  | cons x r ih=>intro a;rw[List.foldl_cons,ih];simp[stepE,ExecD.case,ExecD.word]
 have:=key l ([],[]);unfold runE;rw[this];rfl
structure GoodS (s:SysF) (N K:Nat):Prop where
 pok:ProbOK s.p N
 tn:s.tn=N
 rnd:s.p.rounds=K
 K6:K≤6
 ex:∀e,e<s.ex.length→∃c,ExOK N K s.p.cs s.tab (nthX s.ex e) c
 words:∀e,e<s.ex.length→∀k,k<K→RoundOK N (nthL (nthX s.ex e).word k)
 occ:∀v,v<s.tab.length→∃e,e<s.ex.length∧∃k,k≤K∧∃q,q<N∧nth (nthL (nthX s.ex e).vs k) q=(v:Nat)
 nodup:s.tab.Nodup
 refs:Refs s.tab
 num:s.ex.length=s.p.num
theorem zgf {s:SysF} (h:verE s=0) (h8:Moves8 s.p.st):∃N K,GoodS s N K:=by
 unfold verE at h;by_cases h0:buildE s.p=0
 case neg=>rw[if_neg h0]at h;exact absurd h h0
 rw[if_pos h0]at h;by_cases h1:s.tn=s.p.n∧s.tab=s.p.sys.1∧s.ex=s.p.sys.2
 case neg=>rw[if_neg h1]at h;cases h
 have hz:checkPr s.p=0:=by
  unfold buildE at h0;by_cases hc:checkPr s.p=0
  ·exact hc
  ·rw[if_neg hc]at h0;exact h0
 obtain ⟨N,hok⟩:=probOK hz;obtain ⟨K,hK⟩:∃K:Nat,s.p.rounds=K:=⟨s.p.rounds.toNat,by have:=hok.r;omega⟩;have eN:s.p.n.toNat=N:=by rw[hok.n];exact Int.toNat_natCast N
 have eK:s.p.rounds.toNat=K:=by rw[hK];exact Int.toNat_natCast K
 obtain ⟨h2,h3,h4⟩:=h1;have hrun:RunOK N K s.p.cs (s.tab,s.ex):=by
  rw[h3,h4];have:=zgm (n:=N) (K:=K) (cs:=s.p.cs) (l:=s.p.pairs) fun x hx=>⟨s.p.pairs_case x hx,by rw[s.p.pairs_word x hx,eK]⟩;unfold ProbD.sys;rw[eN];exact this
 refine ⟨N,K,hok,by rw[h2,hok.n],hK,by have:=hok.r;omega,fun e he=>hrun.ex _ (QG he),fun e he k hk=>?_,fun v hv=>?_,hrun.nodup,hrun.refs,?_⟩
 ·have hm:=zcA s.p.n.toNat s.p.cs s.p.pairs;have hx:((nthX s.ex e).case,(nthX s.ex e).word)∈s.p.pairs.map fun x=>((x.1:Int),x.2):=by
   rw[←hm];exact List.mem_map.2 ⟨_,by have:=QG he;rw[h4]at this ⊢;exact this,rfl⟩
  obtain ⟨x,hx,he2⟩:=List.mem_map.1 hx;have e2:x.2=(nthX s.ex e).word:=congrArg Prod.snd he2;unfold ProbD.pairs pairsW at hx;obtain ⟨i,hi,hx⟩:=List.mem_flatMap.1 hx;obtain ⟨w,hw,rfl⟩:=List.mem_map.1 hx;obtain ⟨c,hc⟩:=hrun.ex _ (QG he);have h5:=hok.words h8 s.p.rounds.toNat w hw (nthL w k) (yf (by have:=hc.word;rw[←e2]at this;dsimp only at this;omega));rw[hok.n]at h5;rw[←e2];exact h5
 ·obtain ⟨x,hx,hr⟩:=hrun.occ v hv;obtain ⟨e,he,rfl⟩:=List.getElem_of_mem hx;exact ⟨e,he,by rw[QO he];exact hr⟩
 ·rw[h4];unfold ProbD.sys;rw[ZC];exact s.p.pairs_len
end Go.Proofs.YtiabbjolepnjkaaGreat
namespace Go.Proofs.YtiabbjolepnjkaaGreat
open Go.ChangeShapes Go.WideShapes Go.ChangeAt Go.RowKit
theorem ownGodebug:ownKnob Tryz.prog.godebug=none:=by kernel_rfl
theorem laidOutAll:laidOutB Tryz.prog=true:=by kernel_rfl
theorem zH:Tryz.prog.cellsOf 3=1:=by kernel_rfl
theorem xX:Tryz.prog.cellsOf 36=1:=by kernel_rfl
theorem qV:Tryz.prog.cellsOf 146=1:=by kernel_rfl
theorem xV:Tryz.prog.cellsOf 63=5:=by kernel_rfl
theorem Z3:Tryz.prog.cellsOf 151=6:=by kernel_rfl
theorem xy:Tryz.prog.cellsOf 153=7:=by kernel_rfl
theorem YF:Tryz.prog.cellsOf 155=8:=by kernel_rfl
theorem XK:Tryz.prog.cellsOf 149=1:=by kernel_rfl
theorem QU:Tryz.prog.cellsOf 25=1:=by kernel_rfl
theorem YD:Tryz.prog.cellsOf 65=8:=by kernel_rfl
theorem zaH:Tryz.prog.cellsOf 30=1:=by kernel_rfl
theorem Xb:Tryz.prog.cellsOf 145=1:=by kernel_rfl
theorem YM:Tryz.prog.cellsOf 157=3:=by kernel_rfl
theorem XI:Tryz.prog.cellsOf 22=1:=by kernel_rfl
theorem Ym:Tryz.prog.cellsOf 148=3:=by kernel_rfl
theorem XJ:Tryz.prog.cellsOf 33=1:=by kernel_rfl
theorem zbD:Tryz.prog.cellsOf 24=4:=by kernel_rfl
theorem zcH:Tryz.prog.cellsOf 27=2:=by kernel_rfl
theorem za5:Tryz.prog.cellsOf 29=7:=by kernel_rfl
theorem X5:Tryz.prog.cellsOf 32=2:=by kernel_rfl
theorem zcT:Tryz.prog.cellsOf 35=10:=by kernel_rfl
def Lim {H:Type} (t:TypeId) (d:DataW H):Prop:=∀n∈d.weights Tryz.prog t,n≤reachBytes
section
variable {H:Type} {enc:TypeId×Value→H} {W:World}
theorem Yt {ts:List TypeId} {ds:List (DataW H)} (h:(DataW.weightsEach Tryz.prog ts ds).all (·≤reachBytes)=true) {j:Nat} {t:TypeId} {d:DataW H} (ht:ts[j]? =some t) (hd:ds[j]? =some d):Lim t d:=fun n hn=>by
 have:=List.all_eq_true.1 h _ (DataW.weights_mem_each ht hd n hn);simpa using this
theorem ze8 {t:TypeId} {fs:Array Field} (hu:Tryz.prog.underlying t=some (.struct fs)) {parts:List (DataW H)} (h:Lim t (.agg parts)) {i:Nat} {f:Field} {d:DataW H} (hf:fs[i]? =some f) (hd:parts[i]? =some d):Lim f.type d:=fun n hn=>
 h n (by
  simp only[DataW.weights,hu];exact DataW.weights_mem_each (j:=i) (by simp[hf]) hd n hn)
theorem zgb {e:TypeId} {l:List (DataW H)} {d:DataW H} (hd:d∈l) {n:Nat} (hn:n∈d.weights Tryz.prog e):n∈DataW.weightsAll Tryz.prog e l:=by
 induction l with
 | nil=>cases hd
 | cons x r ih=>
  simp only[DataW.weightsAll,List.mem_append];rcases List.mem_cons.1 hd with rfl | h
  ·exact .inl hn
  ·exact .inr (ih h)
theorem zdK {t e:TypeId} (hu:Tryz.prog.underlying t=some (.slice e)) {el sp:List (DataW H)} (h:Lim t (.slice el sp)):(el.length+sp.length) * Tryz.prog.bytesOf e≤reachBytes∧∀d∈el,Lim e d:=by
 unfold Lim at h;simp only[DataW.weights,hu]at h;exact ⟨h _ (List.mem_cons_self ..),fun d hd n hn=>h n (List.mem_cons_of_mem _ (List.mem_append.2 (.inl (zgb hd hn))))⟩
theorem xg {t:TypeId} {v:Value} {d:DataW H} {p:List MemPlace}
  (h:DataW.Trod enc Tryz.prog W 0 (fun _=>true) true t v d p):∀x∈p,x.block<W.heap.size:=by
 obtain ⟨m,hm⟩:=h;exact DataW.trod_lt m _ _ _ hm
theorem XF {a:Addr} {u:Value} (c0:W.cell? a=some u):a.spot=none:=by
 unfold World.cell? at c0;split at c0
 ·split at c0
  ·cases c0
  ·rename_i hs;simpa using hs
 ·cases c0
theorem Yq (a:Addr):a.add 0=a:=by simp[Addr.add]
theorem zbx {a:Addr} (h:a.spot=none) (j:Nat):a.add j=adr (some a) j:=by
 unfold Addr.add adr;split
 ·rename_i hj;subst hj;cases a;simp at h;simp[h]
 ·rfl
theorem zfr {a:Addr} (h:a.spot=none) (k j:Nat):(a.add k).add j=adr (some a) (k+j):=by
 rw[zbx h k,zbx (a:=adr (some a) k) rfl j];simp[adr,Nat.add_assoc]
theorem zcW {α:Type} {Q:Nat→α→Prop}:∀n:Nat,(∀i,i<n→∃e,Q i e)→∃l:List α,l.length=n∧∀i (h:i<l.length),Q i l[i]:=by
 intro n;induction n with
 | zero=>intro _;exact ⟨[],rfl,fun i hi=>by simp at hi⟩
 | succ n ih=>
  intro h;obtain ⟨l,hl,hq⟩:=ih fun i hi=>h i (by omega);obtain ⟨e,he⟩:=h n (by omega);refine ⟨l++[e],by simp[hl],fun i hi=>?_⟩;by_cases hin:i<l.length
  ·rw[List.getElem_append_left hin];exact hq i hin
  ·obtain rfl:i=l.length:=by simp at hi;omega
   rw[List.getElem_append_right (Nat.le_refl _)];simp;rw[hl];exact he
theorem yp {α:Type} {K:Kd α} {t e:TypeId} (ht:Tryz.prog.underlying t=some (.slice e)) (hz:Tryz.prog.cellsOf e=K.size) (hp:0<K.size) (hb:1≤Tryz.prog.bytesOf e)
  (hr:∀(m:Nat) (cs:List Value) (x:DataW H×List MemPlace),DataW.trod enc Tryz.prog W 0 (fun _=>true) true m e cs=some x→Lim e x.1→∃y,K.rd (fun _=>True) W cs y)
  {m:Nat} {cs:List Value} {x:DataW H×List MemPlace} (h:DataW.trod enc Tryz.prog W 0 (fun _=>true) true m t cs=some x) (hl:Lim t x.1):∃v l,cs=[v]∧Sl K (fun _=>True) W v l:=by
 rcases DataW.trod_slice ht h with ⟨e2,_⟩ | ⟨a,len,cap,elems,rest,m',rfl,e2,hx,_,hlc,hm,hel,hi,hsp,_⟩
 ·exact ⟨_,[],e2,Sl.nil K _ _⟩
 ·rw[hz]at hi hsp;subst e2;rw[hx]at hl;obtain ⟨hw,hle⟩:=zdK ht hl;have hlen:len≤140737488355328:=by
   have h1:(elems.map (·.1)).length+(rest.map (·.1)).length≤((elems.map (·.1)).length+(rest.map (·.1)).length) * Tryz.prog.bytesOf e:=Nat.le_mul_of_pos_right _ hb;have h2:reachBytes=140737488351232:=rfl;rw[h2]at hw;simp only[List.length_map]at h1 hw;omega
  by_cases hc0:cap=0
  ·have hl0:len=0:=by omega
   subst hc0 hl0;exact ⟨_,[],rfl,some a,0,rfl,.inl ⟨rfl,rfl⟩,Nat.le_refl _,⟨by simp[maxLen],by simp⟩,fun j hj=>by simp at hj⟩
  ·have key0:∀{l:List (DataW H×List MemPlace)},0<l.length→(W.cells? 0 (a.add (0 * K.size)) K.size).bind (DataW.trod enc Tryz.prog W 0 (fun _=>true) true m' e)=l[0]?→∃u,W.cell? a=some u:=by
    intro l h0 hq;rw[List.getElem?_eq_getElem h0]at hq;cases hc:W.cells? 0 (a.add (0 * K.size)) K.size with
    | none=>rw[hc]at hq;cases hq
    | some cs'=>
     obtain ⟨_,hl3,hat⟩:=World.cells?_some hc;have:=hat 0 hp;rw[Nat.zero_mul,Yq,Yq,List.getElem?_eq_getElem (by omega)]at this;exact ⟨_,this⟩
   have hcell0:∃u,W.cell? a=some u:=by
    by_cases hl0:len=0
    ·have h3:=(hsp rfl).2 0 (by omega);have hrl:=(hsp rfl).1;rw[hl0]at h3;exact key0 (by omega) h3
    ·exact key0 (by omega) (hi 0 (by omega))
   obtain ⟨u,hu⟩:=hcell0;have hs:=XF hu;have hbl:a.block<W.heap.size:=World.block_lt_of_cell? W _ hu;obtain ⟨es,hes,hq⟩:=zcW (Q:=fun i y=>∃cs:List Value,(∀j,j<K.size→W.cell? (adr (some a) (i * K.size+j))=cs[j]?)∧K.rd (fun _=>True) W cs y) len (by
    intro i hil;have h3:=hi i hil;rw[List.getElem?_eq_getElem (by omega)]at h3;cases hc:W.cells? 0 (a.add (i * K.size)) K.size with
    | none=>rw[hc]at h3;cases h3
    | some cs'=>
     rw[hc]at h3;obtain ⟨_,hl3,hat⟩:=World.cells?_some hc;obtain ⟨y,hy⟩:=hr m' cs' _ h3 (hle _ (List.mem_map.2 ⟨_,List.getElem_mem (by omega),rfl⟩));exact ⟨y,cs',fun j hj=>by rw[←zfr hs];exact hat j hj,hy⟩)
   subst hes;exact ⟨_,es,rfl,some a,cap,rfl,.inr ⟨a.block,a.off,by cases a;simp at hs;simp[hs],hbl,trivial⟩,hlc,⟨hm,hlen⟩,hq⟩
theorem yP {m:Nat} {cs:List Value} {x:DataW H×List MemPlace} (hf:DataW.trod enc Tryz.prog W 0 (fun _=>true) true m 36 cs=some x):∃v l,cs=[v]∧Ints (fun _=>True) W v l:=by
 rcases open_ints Tryz.underlying36 Tryz.underlying3 (by kernel_rfl) hf with ⟨hcs,_⟩ | ⟨x,l,c,zs,hcs,_,hl,hm,hz,_,hcell,hwz⟩
 ·exact ⟨_,[],hcs,Ints.nil _ _⟩
 ·have hz':zs.length=c:=by simpa using hz
  have hlen:(zs.take l).length=l:=by simp;omega
  refine ⟨_,zs.take l,hcs,?_⟩;have hw:∀y∈zs.take l,WF y:=fun y hy=>WF.of_lit (hwz y (List.mem_of_mem_take hy));by_cases h0:zs.length=0
  ·have hl0:l=0:=by omega
   have hc0:c=0:=by omega
   subst hl0 hc0;exact ⟨some x,0,by simp,.inl ⟨by simp,rfl⟩,by simp,by simp[maxLen],fun j hj=>by simp at hj,hw⟩
  ·have c0:=hcell 0 (by omega);rw[Yq]at c0;have hx:=XF c0;have hb:x.block<W.heap.size:=World.block_lt_of_cell? W _ c0;refine ⟨some x,c,by rw[hlen],.inr ⟨x.block,x.off,by cases x;simp at hx;simp[hx],hb,trivial⟩,by omega,hm,fun j hj=>?_,hw⟩;have:=hcell j (by omega);rw[zbx hx]at this;rw[this];congr 2
   rw[hlen]at hj;simp[nth,hj]
theorem fld {t:TypeId} {fs:Array Field} (hu:Tryz.prog.underlying t=some (.struct fs)) {m:Nat} {cs:List Value} {x:DataW H×List MemPlace} (h:DataW.trod enc Tryz.prog W 0 (fun _=>true) true m t cs=some x) (hl:Lim t x.1):
  cs.length=Tryz.prog.cellsOf t∧∀(i:Nat) (f:Field),fs[i]? =some f→∃m' y,DataW.trod enc Tryz.prog W 0 (fun _=>true) true m' f.type ((cs.drop f.offset).take (Tryz.prog.cellsOf f.type))=some y∧Lim f.type y.1:=by
 obtain ⟨xs,n,rfl,hx,hlen,hxl,hg⟩:=DataW.trod_struct hu h;refine ⟨hlen,fun i f hf=>?_⟩;have hi:i<xs.length:=by
  rw[hxl];exact (Array.getElem?_eq_some_iff.1 hf).1
 have h1:=hg i f hf;rw[List.getElem?_eq_getElem hi]at h1;rw[hx]at hl;exact ⟨n,xs[i],h1,ze8 hu hl hf (by rw[List.getElem?_map,List.getElem?_eq_getElem hi];rfl)⟩
def Flt (enc:TypeId×Value→H) (W:World) (t:TypeId) (n:Nat):Prop:=
 ∀(m:Nat) (cs:List Value) (x:DataW H×List MemPlace),DataW.trod enc Tryz.prog W 0 (fun _=>true) true m t cs=some x→∃l:List Int,l.length=n∧cs=l.map (Value.int .i64)∧∀y∈l,WF y
theorem xS:Flt enc W 3 1:=fun m cs x h=>by
 obtain ⟨z,e0,_,w0⟩:=DataW.trod_int Tryz.underlying3 h;exact ⟨[z],rfl,e0,fun y hy=>by rw[List.mem_singleton.1 hy];exact WF.of_lit w0⟩
theorem zbP {cs:List Value} {s n:Nat} {l l2:List Int} (hl:l.length=s) (h1:cs.take s=l.map (Value.int .i64)) (w1:∀y∈l,WF y) (hl2:l2.length=n) (h2:(cs.drop s).take n=l2.map (Value.int .i64)) (w2:∀y∈l2,WF y):
  ∃l:List Int,l.length=s+n∧cs.take (s+n)=l.map (Value.int .i64)∧∀y∈l,WF y:=
 ⟨l++l2,by simp[hl,hl2],by rw[List.take_add,h1,h2,List.map_append],fun y hy=>(List.mem_append.1 hy).elim (w1 y) (w2 y)⟩
theorem zeh {t e:TypeId} {n:Nat} (hu:Tryz.prog.underlying t=some (.array n e)) (hc:Tryz.prog.cellsOf t=n) (he:Tryz.prog.cellsOf e=1) (hf:Flt enc W e 1):Flt enc W t n:=fun m cs x h=>by
 obtain ⟨xs,m',rfl,hx,hlen,hxl,hg⟩:=DataW.trod_array hu h;have key:∀k,k≤n→∃l:List Int,l.length=k∧cs.take k=l.map (Value.int .i64)∧∀y∈l,WF y:=by
  intro k;induction k with
  | zero=>intro _;exact ⟨[],rfl,by simp,fun y hy=>by cases hy⟩
  | succ k ih=>
   intro hk;obtain ⟨l,hl,h1,w1⟩:=ih (by omega);have h2:=hg k (by omega);rw[he,Nat.mul_one,List.getElem?_eq_getElem (by omega)]at h2;obtain ⟨l2,hl2,h3,w2⟩:=hf _ _ _ h2;exact zbP hl h1 w1 hl2 h3 w2
 obtain ⟨l,hl,h1,w⟩:=key n (Nat.le_refl _);rw[List.take_of_length_le (by omega)]at h1;exact ⟨l,hl,h1,w⟩
theorem xB {t:TypeId} {fs:Array Field} {ns:List Nat} (hu:Tryz.prog.underlying t=some (.struct fs)) (hc:Tryz.prog.cellsOf t=ns.sum)
  (hf:∀(i n:Nat),ns[i]? =some n→∃f,fs[i]? =some f∧f.offset=(ns.take i).sum∧Tryz.prog.cellsOf f.type=n∧Flt enc W f.type n):Flt enc W t ns.sum:=fun m cs x h=>by
 obtain ⟨xs,m',rfl,hx,hlen,hxl,hg⟩:=DataW.trod_struct hu h;have key:∀k,k≤ns.length→∃l:List Int,l.length=(ns.take k).sum∧cs.take (ns.take k).sum=l.map (Value.int .i64)∧∀y∈l,WF y:=by
  intro k;induction k with
  | zero=>intro _;exact ⟨[],rfl,by simp,fun y hy=>by cases hy⟩
  | succ k ih=>
   intro hk;obtain ⟨l,hl,h1,w1⟩:=ih (by omega);obtain ⟨f,f1,f2,f3,f4⟩:=hf k ns[k] (List.getElem?_eq_getElem (by omega));have h2:=hg k f f1;have hi:k<xs.length:=by rw[hxl];exact (Array.getElem?_eq_some_iff.1 f1).1
   rw[f2,f3,List.getElem?_eq_getElem hi]at h2;obtain ⟨l2,hl2,h3,w2⟩:=f4 _ _ _ h2;have hs:(ns.take (k+1)).sum=(ns.take k).sum+ns[k]:=by rw[List.take_add_one,List.getElem?_eq_getElem (by omega),List.sum_append];simp
   rw[hs];exact zbP hl h1 w1 hl2 h3 w2
 obtain ⟨l,hl,h1,w⟩:=key ns.length (Nat.le_refl _);rw[List.take_length]at hl h1;rw[List.take_of_length_le (by omega)]at h1;exact ⟨l,hl,h1,w⟩
theorem zbY:Flt enc W 63 5:=zeh Tryz.underlying63 xV zH xS
theorem zd1:Flt enc W 151 6:=xB (ns:=[1,5]) Tryz.underlying151 Z3 fun i n hi=>by
 match i,hi with
 | 0,hi=>cases hi;exact ⟨_,rfl,rfl,zH,xS⟩
 | 1,hi=>cases hi;exact ⟨_,rfl,rfl,xV,zbY⟩
theorem zag:Flt enc W 153 7:=xB (ns:=[6,1]) Tryz.underlying153 xy fun i n hi=>by
 match i,hi with
 | 0,hi=>cases hi;exact ⟨_,rfl,rfl,Z3,zd1⟩
 | 1,hi=>cases hi;exact ⟨_,rfl,rfl,zH,xS⟩
theorem zfd:Flt enc W 155 8:=xB (ns:=[7,1]) Tryz.underlying155 YF fun i n hi=>by
 match i,hi with
 | 0,hi=>cases hi;exact ⟨_,rfl,rfl,xy,zag⟩
 | 1,hi=>cases hi;exact ⟨_,rfl,rfl,zH,xS⟩
theorem zeW:Flt enc W 65 8:=xB (ns:=[1,1,1,5]) Tryz.underlying65 YD fun i n hi=>by
 match i,hi with
 | 0,hi=>cases hi;exact ⟨_,rfl,rfl,zH,xS⟩
 | 1,hi=>cases hi;exact ⟨_,rfl,rfl,zH,xS⟩
 | 2,hi=>cases hi;exact ⟨_,rfl,rfl,zH,xS⟩
 | 3,hi=>cases hi;exact ⟨_,rfl,rfl,xV,zbY⟩
theorem zaV {t:TypeId} {n:Nat} (h:Flt enc W t n):∀(m:Nat) (cs:List Value) (x:DataW H×List MemPlace),DataW.trod enc Tryz.prog W 0 (fun _=>true) true m t cs=some x→Lim t x.1→∃y,(kFlat n).rd (fun _=>True) W cs y:=
 fun m cs x hx _=>by
  obtain ⟨l,h1,h2,h3⟩:=h m cs x hx;exact ⟨l,h1,h2,h3⟩
theorem YY {m:Nat} {cs:List Value} {x:DataW H×List MemPlace} (h:DataW.trod enc Tryz.prog W 0 (fun _=>true) true m 145 cs=some x) (hl:Lim 145 x.1):∃v l,cs=[v]∧Sl (kFlat 7) (fun _=>True) W v l:=
 yp (K:=kFlat 7) Tryz.underlying145 xy (by decide) (of_decide_eq_true (by kernel_rfl)) (zaV zag) h hl
theorem QJ {m:Nat} {cs:List Value} {x:DataW H×List MemPlace} (h:DataW.trod enc Tryz.prog W 0 (fun _=>true) true m 30 cs=some x) (hl:Lim 30 x.1):∃v l,cs=[v]∧Sl (kFlat 8) (fun _=>True) W v l:=
 yp (K:=kFlat 8) Tryz.underlying30 YD (by decide) (of_decide_eq_true (by kernel_rfl)) (zaV zeW) h hl
theorem QE {m:Nat} {cs:List Value} {x:DataW H×List MemPlace} (h:DataW.trod enc Tryz.prog W 0 (fun _=>true) true m 149 cs=some x) (hl:Lim 149 x.1):∃v l,cs=[v]∧Sl (kFlat 8) (fun _=>True) W v l:=
 yp (K:=kFlat 8) Tryz.underlying149 YF (by decide) (of_decide_eq_true (by kernel_rfl)) (zaV zfd) h hl
theorem YU {m:Nat} {cs:List Value} {x:DataW H×List MemPlace} (h:DataW.trod enc Tryz.prog W 0 (fun _=>true) true m 25 cs=some x) (hl:Lim 25 x.1):∃v l,cs=[v]∧Sl (kSl (kFlat 8)) (fun _=>True) W v l:=
 yp (K:=kSl (kFlat 8)) Tryz.underlying25 XK (by decide) (of_decide_eq_true (by kernel_rfl)) (fun m cs x h1 h2=>let ⟨v,l,e,h3⟩:=QE h1 h2;⟨l,v,e,h3⟩) h hl
theorem qT {m:Nat} {cs:List Value} {x:DataW H×List MemPlace} (h:DataW.trod enc Tryz.prog W 0 (fun _=>true) true m 146 cs=some x) (hl:Lim 146 x.1):∃v l,cs=[v]∧Lists (fun _=>True) W v l:=
 let ⟨v,l,e,h1⟩:=yp (K:=kInts) Tryz.underlying146 xX (by decide) (of_decide_eq_true (by kernel_rfl)) (fun m cs x h1 h2=>let ⟨v,l,e,h3⟩:=yP h1;⟨l,v,e,h3⟩) h hl
 ⟨v,l,e,.of_sl h1⟩
theorem getR3 {α:Type} {l:List α} (h:l.length=3):∃a0 a1 a2,l=[a0,a1,a2]:=by
 match l,h with
 | [a0,a1,a2],_=>exact ⟨a0,a1,a2,rfl⟩
theorem getR10 {α:Type} {l:List α} (h:l.length=10):∃a0 a1 a2 a3 a4 a5 a6 a7 a8 a9,l=[a0,a1,a2,a3,a4,a5,a6,a7,a8,a9]:=by
 match l,h with
 | [a0,a1,a2,a3,a4,a5,a6,a7,a8,a9],_=>exact ⟨a0,a1,a2,a3,a4,a5,a6,a7,a8,a9,rfl⟩
theorem qC {m:Nat} {c:Value} {y:DataW H×List MemPlace} (h:DataW.trod enc Tryz.prog W 0 (fun _=>true) true m 3 [c]=some y):∃z:Int,c=.int .i64 z:=by
 obtain ⟨z,e0,_,_⟩:=DataW.trod_int Tryz.underlying3 h;exact ⟨z,by simpa using e0⟩
theorem zat (m:Nat) (cs:List Value) (x:DataW H×List MemPlace) (h:DataW.trod enc Tryz.prog W 0 (fun _=>true) true m 157 cs=some x) (hl:Lim 157 x.1):∃y,kCase.rd (fun _=>True) W cs y:=by
 obtain ⟨hlen,hg⟩:=fld Tryz.underlying157 h hl;rw[YM]at hlen;obtain ⟨c0,c1,c2,rfl⟩:=getR3 hlen;obtain ⟨m0,y0,h0,l0⟩:=hg 0 _ rfl;replace h0:DataW.trod enc Tryz.prog W 0 (fun _=>true) true m0 36 (([c0,c1,c2].drop 0).take (Tryz.prog.cellsOf 36))=some y0:=h0;rw[xX]at h0;replace h0:DataW.trod enc Tryz.prog W 0 (fun _=>true) true m0 36 [c0]=some y0:=h0;obtain ⟨m1,y1,h1,l1⟩:=hg 1 _ rfl;replace h1:DataW.trod enc Tryz.prog W 0 (fun _=>true) true m1 146 (([c0,c1,c2].drop 1).take (Tryz.prog.cellsOf 146))=some y1:=h1;rw[qV]at h1;replace h1:DataW.trod enc Tryz.prog W 0 (fun _=>true) true m1 146 [c1]=some y1:=h1;obtain ⟨m2,y2,h2,l2⟩:=hg 2 _ rfl;replace h2:DataW.trod enc Tryz.prog W 0 (fun _=>true) true m2 146 (([c0,c1,c2].drop 2).take (Tryz.prog.cellsOf 146))=some y2:=h2;rw[qV]at h2;replace h2:DataW.trod enc Tryz.prog W 0 (fun _=>true) true m2 146 [c2]=some y2:=h2;obtain ⟨v0,i0,e0,r0⟩:=yP h0;obtain ⟨v1,i1,e1,r1⟩:=qT h1 l1;obtain ⟨v2,i2,e2,r2⟩:=qT h2 l2;simp only[List.cons.injEq,and_true]at e0 e1 e2;subst e0 e1 e2;exact ⟨⟨i0,i1,i2⟩,_,_,_,rfl,r0,r1,r2⟩
theorem XU (m:Nat) (cs:List Value) (x:DataW H×List MemPlace) (h:DataW.trod enc Tryz.prog W 0 (fun _=>true) true m 148 cs=some x) (hl:Lim 148 x.1):∃y,kExec.rd (fun _=>True) W cs y:=by
 obtain ⟨hlen,hg⟩:=fld Tryz.underlying148 h hl;rw[Ym]at hlen;obtain ⟨c0,c1,c2,rfl⟩:=getR3 hlen;obtain ⟨m0,y0,h0,l0⟩:=hg 0 _ rfl;replace h0:DataW.trod enc Tryz.prog W 0 (fun _=>true) true m0 3 (([c0,c1,c2].drop 0).take (Tryz.prog.cellsOf 3))=some y0:=h0;rw[zH]at h0;replace h0:DataW.trod enc Tryz.prog W 0 (fun _=>true) true m0 3 [c0]=some y0:=h0;obtain ⟨m1,y1,h1,l1⟩:=hg 1 _ rfl;replace h1:DataW.trod enc Tryz.prog W 0 (fun _=>true) true m1 145 (([c0,c1,c2].drop 1).take (Tryz.prog.cellsOf 145))=some y1:=h1;rw[Xb]at h1;replace h1:DataW.trod enc Tryz.prog W 0 (fun _=>true) true m1 145 [c1]=some y1:=h1;obtain ⟨m2,y2,h2,l2⟩:=hg 2 _ rfl;replace h2:DataW.trod enc Tryz.prog W 0 (fun _=>true) true m2 146 (([c0,c1,c2].drop 2).take (Tryz.prog.cellsOf 146))=some y2:=h2;rw[qV]at h2;replace h2:DataW.trod enc Tryz.prog W 0 (fun _=>true) true m2 146 [c2]=some y2:=h2;obtain ⟨z0,rfl⟩:=qC h0;obtain ⟨v1,i1,e1,r1⟩:=YY h1 l1;obtain ⟨v2,i2,e2,r2⟩:=qT h2 l2;simp only[List.cons.injEq,and_true]at e1 e2;subst e1 e2;exact ⟨⟨z0,i1,i2⟩,_,_,rfl,r1,r2⟩
theorem Xo {m:Nat} {cs:List Value} {x:DataW H×List MemPlace} (h:DataW.trod enc Tryz.prog W 0 (fun _=>true) true m 22 cs=some x) (hl:Lim 22 x.1):∃v l,cs=[v]∧Sl (kCase) (fun _=>True) W v l:=
 yp (K:=kCase) Tryz.underlying22 YM (by decide) (of_decide_eq_true (by kernel_rfl)) (zat) h hl
theorem Xm {m:Nat} {cs:List Value} {x:DataW H×List MemPlace} (h:DataW.trod enc Tryz.prog W 0 (fun _=>true) true m 33 cs=some x) (hl:Lim 33 x.1):∃v l,cs=[v]∧Sl (kExec) (fun _=>True) W v l:=
 yp (K:=kExec) Tryz.underlying33 Ym (by decide) (of_decide_eq_true (by kernel_rfl)) (XU) h hl
theorem Xy {base:Nat} {v:Value} {d:DataW H} {p:List MemPlace} (hl:Lim 35 d) (hv:Value.okWide Tryz.prog W .any base 35 v)
  (h:DataW.Trod enc Tryz.prog W 0 (fun _=>true) true 35 v d p):∃s,SysV (fun _=>True) W v s:=by
 obtain ⟨cs,rfl,_⟩:=okWide_struct Tryz.underlying35 hv;obtain ⟨fuel,hf⟩:=h;obtain ⟨hlen,hg⟩:=fld Tryz.underlying35 hf hl;rw[zcT]at hlen;obtain ⟨l⟩:=cs;obtain ⟨c0,c1,c2,c3,c4,c5,c6,c7,c8,c9,hl2⟩:=getR10 hlen;simp only[Value.cells]at hl2;subst hl2;clear hf hlen hv;obtain ⟨m0,y0,h0,l0⟩:=hg 0 _ rfl;replace h0:DataW.trod enc Tryz.prog W 0 (fun _=>true) true m0 29 (([c0,c1,c2,c3,c4,c5,c6,c7,c8,c9].drop 0).take (Tryz.prog.cellsOf 29))=some y0:=h0;rw[za5]at h0;replace h0:DataW.trod enc Tryz.prog W 0 (fun _=>true) true m0 29 [c0,c1,c2,c3,c4,c5,c6]=some y0:=h0;obtain ⟨m1,y1,h1,l1⟩:=hg 1 _ rfl;replace h1:DataW.trod enc Tryz.prog W 0 (fun _=>true) true m1 32 (([c0,c1,c2,c3,c4,c5,c6,c7,c8,c9].drop 7).take (Tryz.prog.cellsOf 32))=some y1:=h1;rw[X5]at h1;replace h1:DataW.trod enc Tryz.prog W 0 (fun _=>true) true m1 32 [c7,c8]=some y1:=h1;obtain ⟨m2,y2,h2,l2⟩:=hg 2 _ rfl;replace h2:DataW.trod enc Tryz.prog W 0 (fun _=>true) true m2 33 (([c0,c1,c2,c3,c4,c5,c6,c7,c8,c9].drop 9).take (Tryz.prog.cellsOf 33))=some y2:=h2;rw[XJ]at h2;replace h2:DataW.trod enc Tryz.prog W 0 (fun _=>true) true m2 33 [c9]=some y2:=h2;obtain ⟨_,gp⟩:=fld Tryz.underlying29 h0 l0;obtain ⟨m3,y3,h3,l3⟩:=gp 0 _ rfl;replace h3:DataW.trod enc Tryz.prog W 0 (fun _=>true) true m3 24 (([c0,c1,c2,c3,c4,c5,c6].drop 0).take (Tryz.prog.cellsOf 24))=some y3:=h3;rw[zbD]at h3;replace h3:DataW.trod enc Tryz.prog W 0 (fun _=>true) true m3 24 [c0,c1,c2,c3]=some y3:=h3;obtain ⟨m4,y4,h4,l4⟩:=gp 1 _ rfl;replace h4:DataW.trod enc Tryz.prog W 0 (fun _=>true) true m4 27 (([c0,c1,c2,c3,c4,c5,c6].drop 4).take (Tryz.prog.cellsOf 27))=some y4:=h4;rw[zcH]at h4;replace h4:DataW.trod enc Tryz.prog W 0 (fun _=>true) true m4 27 [c4,c5]=some y4:=h4;obtain ⟨m5,y5,h5,l5⟩:=gp 2 _ rfl;replace h5:DataW.trod enc Tryz.prog W 0 (fun _=>true) true m5 3 (([c0,c1,c2,c3,c4,c5,c6].drop 6).take (Tryz.prog.cellsOf 3))=some y5:=h5;rw[zH]at h5;replace h5:DataW.trod enc Tryz.prog W 0 (fun _=>true) true m5 3 [c6]=some y5:=h5;obtain ⟨_,gt⟩:=fld Tryz.underlying32 h1 l1;obtain ⟨m6,y6,h6,l6⟩:=gt 0 _ rfl;replace h6:DataW.trod enc Tryz.prog W 0 (fun _=>true) true m6 3 (([c7,c8].drop 0).take (Tryz.prog.cellsOf 3))=some y6:=h6;rw[zH]at h6;replace h6:DataW.trod enc Tryz.prog W 0 (fun _=>true) true m6 3 [c7]=some y6:=h6;obtain ⟨m7,y7,h7,l7⟩:=gt 1 _ rfl;replace h7:DataW.trod enc Tryz.prog W 0 (fun _=>true) true m7 30 (([c7,c8].drop 1).take (Tryz.prog.cellsOf 30))=some y7:=h7;rw[zaH]at h7;replace h7:DataW.trod enc Tryz.prog W 0 (fun _=>true) true m7 30 [c8]=some y7:=h7;obtain ⟨_,gk⟩:=fld Tryz.underlying24 h3 l3;obtain ⟨m8,y8,h8,l8⟩:=gk 0 _ rfl;replace h8:DataW.trod enc Tryz.prog W 0 (fun _=>true) true m8 3 (([c0,c1,c2,c3].drop 0).take (Tryz.prog.cellsOf 3))=some y8:=h8;rw[zH]at h8;replace h8:DataW.trod enc Tryz.prog W 0 (fun _=>true) true m8 3 [c0]=some y8:=h8;obtain ⟨m9,y9,h9,l9⟩:=gk 1 _ rfl;replace h9:DataW.trod enc Tryz.prog W 0 (fun _=>true) true m9 3 (([c0,c1,c2,c3].drop 1).take (Tryz.prog.cellsOf 3))=some y9:=h9;rw[zH]at h9;replace h9:DataW.trod enc Tryz.prog W 0 (fun _=>true) true m9 3 [c1]=some y9:=h9;obtain ⟨m10,y10,h10,l10⟩:=gk 2 _ rfl;replace h10:DataW.trod enc Tryz.prog W 0 (fun _=>true) true m10 3 (([c0,c1,c2,c3].drop 2).take (Tryz.prog.cellsOf 3))=some y10:=h10;rw[zH]at h10;replace h10:DataW.trod enc Tryz.prog W 0 (fun _=>true) true m10 3 [c2]=some y10:=h10;obtain ⟨m11,y11,h11,l11⟩:=gk 3 _ rfl;replace h11:DataW.trod enc Tryz.prog W 0 (fun _=>true) true m11 22 (([c0,c1,c2,c3].drop 3).take (Tryz.prog.cellsOf 22))=some y11:=h11;rw[XI]at h11;replace h11:DataW.trod enc Tryz.prog W 0 (fun _=>true) true m11 22 [c3]=some y11:=h11;obtain ⟨_,ga⟩:=fld Tryz.underlying27 h4 l4;obtain ⟨m12,y12,h12,l12⟩:=ga 0 _ rfl;replace h12:DataW.trod enc Tryz.prog W 0 (fun _=>true) true m12 3 (([c4,c5].drop 0).take (Tryz.prog.cellsOf 3))=some y12:=h12;rw[zH]at h12;replace h12:DataW.trod enc Tryz.prog W 0 (fun _=>true) true m12 3 [c4]=some y12:=h12;obtain ⟨m13,y13,h13,l13⟩:=ga 1 _ rfl;replace h13:DataW.trod enc Tryz.prog W 0 (fun _=>true) true m13 25 (([c4,c5].drop 1).take (Tryz.prog.cellsOf 25))=some y13:=h13;rw[QU]at h13;replace h13:DataW.trod enc Tryz.prog W 0 (fun _=>true) true m13 25 [c5]=some y13:=h13;obtain ⟨z8,rfl⟩:=qC h8;obtain ⟨z9,rfl⟩:=qC h9;obtain ⟨z10,rfl⟩:=qC h10;obtain ⟨v11,i11,e11,r11⟩:=Xo h11 l11;obtain ⟨z12,rfl⟩:=qC h12;obtain ⟨v13,i13,e13,r13⟩:=YU h13 l13;obtain ⟨z5,rfl⟩:=qC h5;obtain ⟨z6,rfl⟩:=qC h6;obtain ⟨v7,i7,e7,r7⟩:=QJ h7 l7;obtain ⟨v2,i2,e2,r2⟩:=Xm h2 l2;simp only[List.cons.injEq,and_true]at e11 e13 e7 e2;subst e11 e13 e7 e2;exact ⟨⟨⟨z8,z9,z10,i11,z12,i13,z5⟩,z6,i7,i2⟩,_,_,_,_,rfl,r11,r13,r7,r2⟩
end
end Go.Proofs.YtiabbjolepnjkaaGreat
namespace Go.Proofs.YtiabbjolepnjkaaGreat
open Go.ChangeShapes Go.WideShapes Go.ChangeAt Go.RowKit
section
variable {H:Type} {enc:TypeId×Value→H} {W:World}
theorem Yp {base:Nat} {v:Value} {d:DataW H} {p:List MemPlace} (hv:Value.okWide Tryz.prog W .any base 36 v)
  (h:DataW.Trod enc Tryz.prog W 0 (fun _=>true) true 36 v d p):∃l,Ints (fun _=>True) W v l:=by
 obtain ⟨a0,len,cap,rfl⟩:=okWide_slice Tryz.underlying36 hv;obtain ⟨fuel,hf⟩:=h;obtain ⟨u,l,e,h1⟩:=yP hf;simp only[Value.cells,List.cons.injEq,and_true]at e;subst e;exact ⟨l,h1⟩
end
end Go.Proofs.YtiabbjolepnjkaaGreat
