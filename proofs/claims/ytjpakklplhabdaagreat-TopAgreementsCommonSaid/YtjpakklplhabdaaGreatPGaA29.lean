/- Part of the proof that the laws answer true for every input. -/
import Derived.Test.YtjpakklplhabdaaGreatPGaA26
import Derived.Deep.OwnRows
import Derived.Deep.DeepCutAuto
import Derived.ProofKit
import Derived.OpenShut
import Derived.ShutString
import Derived.ChangeOld
import Derived.Below
import Derived.Lib.SmallJoins
import Derived.LaidMore
import Derived.SizedLaws
import Derived.Test.YtjpakklplhabdaaGreatRows
set_option linter.unusedSimpArgs false
set_option linter.unnecessarySimpa false
set_option linter.unusedVariables false
set_option maxRecDepth 100000
set_option maxHeartbeats 40000000
namespace Go.Proofs.YtjpakklplhabdaaGreat
section
variable {K:Type} [DecidableEq K]
def addF (s:List K) (k:K):List K:=if k∈s then s else s++[k]
def firsts (l:List K):List K:=l.foldl addF []
def lab (l:List K) (k:K):Nat:=(firsts l).idxOf k
def zzlabs (l:List K):List Int:=l.map fun k=>(lab l k:Int)
theorem qu (l:List K) (x:K):firsts (l++[x])=addF (firsts l) x:=by simp[firsts,List.foldl_append]
theorem zdG {s:List K} {x k:K}:k∈addF s x↔k∈s∨k=x:=by
 unfold addF;split
 ·rename_i h;exact ⟨.inl,fun h'=>h'.elim id (fun e=>e▸h)⟩
 ·simp
theorem ZQ (l:List K):∀s:List K,∀k,k∈l.foldl addF s↔k∈s∨k∈l:=by
 induction l with
 | nil=>simp
 | cons x l ih=>intro s k;simp[ih,zdG,or_assoc]
theorem ye {l:List K} {k:K}:k∈firsts l↔k∈l:=by simp[firsts,ZQ]
theorem zbl {s:List K} {x k:K} (h:k∈s):(s++[x]).idxOf k=s.idxOf k:=by rw[List.idxOf_append];simp[h]
theorem zcT {s:List K} {x:K} (h:x∉s):(s++[x]).idxOf x=s.length:=by rw[List.idxOf_append];simp[h]
theorem Zh {l:List K} {x k:K} (h:k∈l):lab (l++[x]) k=lab l k:=by
 unfold lab;rw[qu];unfold addF;split
 ·rfl
 ·exact zbl (ye.2 h)
theorem zaE {l:List K} {x:K} (h:x∉l):lab (l++[x]) x=(firsts l).length:=by
 unfold lab;rw[qu];unfold addF;rw[if_neg (fun h'=>h (ye.1 h'))]
 exact zcT (fun h'=>h (ye.1 h'))
theorem zbF {l:List K} {x:K} (h:x∈l):firsts (l++[x])=firsts l:=by rw[qu];unfold addF;rw[if_pos (ye.2 h)]
theorem zbA {l:List K} {x:K} (h:x∉l):firsts (l++[x])=firsts l++[x]:=by rw[qu];unfold addF;rw[if_neg (fun h'=>h (ye.1 h'))]
theorem ZT (s:List K) (x:K):(addF s x).length≤s.length+1:=by unfold addF;split<;>simp
theorem qx (l:List K):(firsts l).length≤l.length:=by
 have:∀(l s:List K),(l.foldl addF s).length≤s.length+l.length:=by
  intro l
  induction l with
  | nil=>simp
  | cons x l ih=>intro s;have:=ih (addF s x);have:=ZT s x;simp;omega
 simpa[firsts] using this l []
theorem zci (l:List K) (x:K):zzlabs (l++[x])=zzlabs l++[(lab (l++[x]) x:Int)]:=by
 unfold zzlabs
 rw[List.map_append]
 congr 1
 apply List.map_congr_left
 intro k hk
 rw[Zh hk]
@[simp] theorem length_labs (l:List K):(zzlabs l).length=l.length:=by simp[zzlabs]
theorem zeO {l:List K} {k:K} (h:k∈l):lab l k<(firsts l).length:=List.idxOf_lt_length_iff.2 (ye.2 h)
theorem zeA {l:List K} {j k:K} (hj:j∈l) (hk:k∈l) (h:lab l j=lab l k):j=k:=by
 unfold lab at h
 have h1:=List.getElem_idxOf (x:=j) (xs:=firsts l) (List.idxOf_lt_length_iff.2 (ye.2 hj))
 have h2:=List.getElem_idxOf (x:=k) (xs:=firsts l) (List.idxOf_lt_length_iff.2 (ye.2 hk))
 rw[←h1,←h2]
 congr 1
end
end Go.Proofs.YtjpakklplhabdaaGreat
namespace Go.Proofs.YtjpakklplhabdaaGreat
section
variable {K:Type} [DecidableEq K]
def labMap (l:List K) (k:K):Option Value:=if k∈l then some (.int .i64 (lab l k)) else none
theorem zbc:labMap ([]:List K)=fun _=>none:=by funext k;simp[labMap]
theorem Ye {l:List K} {x:K} (h:x∈l):labMap l x=some (.int .i64 (lab l x)):=by simp[labMap,h]
theorem XK {l:List K} {x:K} (h:x∉l):labMap l x=none:=by simp[labMap,h]
theorem zbN {l:List K} {x:K} (h:x∈l):labMap (l++[x])=labMap l:=by
 funext k
 unfold labMap
 by_cases hk:k∈l
 ·rw[if_pos hk,if_pos (by simp[hk]),Zh hk]
 ·have:k≠x:=fun e=>hk (e▸h)
  rw[if_neg hk,if_neg (by simp[hk,this])]
theorem zbI {l:List K} {x:K} (h:x∉l):(fun z=>if z=x then some (Value.int .i64 ((firsts l).length:Int)) else labMap l z)=labMap (l++[x]):=by
 funext k
 by_cases e:k=x
 ·subst e
  simp[labMap,zaE h]
 ·rw[if_neg e]
  unfold labMap
  by_cases hk:k∈l
  ·rw[if_pos hk,if_pos (by simp[hk]),Zh hk]
  ·rw[if_neg hk,if_neg (by simp[hk,e])]
end
theorem zep {K:Type} [DecidableEq K] {l:List K} (h:l.length≤65536):∀x∈zzlabs l,WF x:=by
 intro x hx
 obtain ⟨k,hk,rfl⟩:=List.mem_map.1 hx
 have:=zeO hk
 have:=qx l
 exact WF.small (by omega)
end Go.Proofs.YtjpakklplhabdaaGreat
namespace Go.Proofs.YtjpakklplhabdaaGreat
open Go.RowKit
theorem Zd (w:World):(zeroValue 3).run Tryz.prog w=.ok (.int .i64 0) w:=by kernel_rfl
noncomputable def keyInt:KeyB Tryz.prog 3 Int:=intKey Tryz.underlying3
end Go.Proofs.YtjpakklplhabdaaGreat
namespace Go.Proofs.YtjpakklplhabdaaGreat
section
variable {K L:Type}
def keys (f:Nat→K) (n:Nat):List K:=(List.range n).map f
theorem zaS {f:Nat→K} {n:Nat} {x:K}:x∈keys f n↔∃i,i<n∧f i=x:=by simp[keys]
@[simp] theorem length_keys (f:Nat→K) (n:Nat):(keys f n).length=n:=by simp[keys]
variable [DecidableEq K] [DecidableEq L]
omit [DecidableEq L] in
end
theorem Xb {K:Type} [DecidableEq K] {f:Nat→K} {n i j:Nat} (hi:i<n) (hj:j<n):nth (zzlabs (keys f n)) i=nth (zzlabs (keys f n)) j↔f i=f j:=by
 have e:∀k,k<n→nth (zzlabs (keys f n)) k=(lab (keys f n) (f k):Int):=fun k hk=>by
  rw[yq (by simpa using hk)]
  simp[zzlabs,keys]
 rw[e i hi,e j hj]
 constructor
 ·intro h
  exact zeA (zaS.2 ⟨i,hi,rfl⟩) (zaS.2 ⟨j,hj,rfl⟩) (by omega)
 ·intro h;rw[h]
end Go.Proofs.YtjpakklplhabdaaGreat
namespace Go.Proofs.YtjpakklplhabdaaGreat
def nthB (l:List Bool) (i:Nat):Bool:=l.getD i false
theorem Y4 {l:List Bool} {k:Nat} (h:k<l.length):nthB l k=l[k]:=by simp[nthB,h]
theorem yr {a b:List Bool} (h:a.length=b.length) (hh:∀k,k<a.length→nthB a k=nthB b k):a=b:=by
 apply List.ext_getElem h
 intro i h1 h2
 have:=hh i h1
 rwa [Y4 h1,Y4 h2]at this
def brkB (l:List Int) (b:List Bool) (n:Nat) (x:Int):Bool:=(List.range n).any fun j=>decide (nth l j=x)&& !nthB b j
theorem zcd (l:List Int) (b:List Bool) (x:Int):brkB l b 0 x=false:=rfl
theorem QK (l:List Int) (b:List Bool) (n:Nat) (x:Int):brkB l b (n+1) x=(brkB l b n x||(decide (nth l n=x)&& !nthB b n)):=by
 unfold brkB;rw[List.range_succ,List.any_append];simp
def insL (l:List Int) (b:List Bool) (n:Nat):List Bool:=(List.range n).map fun i=> !brkB l b b.length (nth l i)
theorem Zj (l:List Int) (b:List Bool) (n:Nat):(insL l b n).length=n:=by simp[insL]
theorem zc0 {l:List Int} {b:List Bool} {n i:Nat} (h:i<n):nthB (insL l b n) i= !brkB l b b.length (nth l i):=by simp[insL,nthB,h]
theorem Yb {l:List Int} {b:List Bool} (h:∀i j,i<b.length→j<b.length→nth l i=nth l j→nthB b i=true→nthB b j=true):insL l b b.length=b:=by
 refine yr (Zj ..) fun i hi=>?_
 rw[Zj]at hi
 rw[zc0 hi]
 cases hb:nthB b i with
 | true=>
  rw[Bool.not_eq_true']
  unfold brkB
  rw[List.any_eq_false]
  intro j hj
  have hj:=List.mem_range.1 hj
  by_cases e:nth l j=nth l i
  ·rw[h i j hi hj e.symm hb];simp
  ·rw[decide_eq_false e];simp
 | false=>
  rw[Bool.not_eq_false']
  unfold brkB
  rw[List.any_eq_true]
  exact ⟨i,List.mem_range.2 hi,by rw[hb];simp⟩
def botL (a b:List Bool) (n:Nat):List Bool:=(List.range n).map fun i=>nthB a i&&nthB b i
theorem yv (a b:List Bool) (n:Nat):(botL a b n).length=n:=by simp[botL]
theorem YU {a b:List Bool} {n i:Nat} (h:i<n):nthB (botL a b n) i=(nthB a i&&nthB b i):=by simp[botL,nthB,h]
theorem za2 (b:List Bool):botL b b b.length=b:=yr (yv ..) fun i hi=>by
 rw[yv]at hi
 rw[YU hi,Bool.and_self]
theorem zd6 {n i:Nat} (h:i<n):nthB (List.replicate n true) i=true:=by simp[nthB,h]
theorem zeC (b:List Bool):botL (List.replicate b.length true) b b.length=b:=yr (yv ..) fun i hi=>by
 rw[yv]at hi
 rw[YU hi,zd6 hi,Bool.true_and]
theorem zeq (b:List Bool):botL b (List.replicate b.length true) b.length=b:=yr (yv ..) fun i hi=>by
 rw[yv]at hi
 rw[YU hi,zd6 hi,Bool.and_true]
def evrL (labs:Nat→List Int) (b:List Bool):Nat→List Bool
 | 0=>List.replicate b.length true
 | k+1=>botL (evrL labs b k) (insL (labs k) b b.length) b.length
theorem X0 (labs:Nat→List Int) (b:List Bool):∀k,(evrL labs b k).length=b.length
 | 0=>List.length_replicate
 | k+1=>yv ..
theorem zac {labs:Nat→List Int} {b:List Bool}:∀{k:Nat},0<k→(∀q i j,q<k→i<b.length→j<b.length→nth (labs q) i=nth (labs q) j→nthB b i=true→nthB b j=true)→evrL labs b k=b
 | 1,_,h=>by
  show botL (List.replicate b.length true) (insL (labs 0) b b.length) b.length=b
  rw[Yb fun i j=>h 0 i j (by omega),zeC]
 | k+2,_,h=>by
  show botL (evrL labs b (k+1)) (insL (labs (k+1)) b b.length) b.length=b
  rw[zac (k:=k+1) (by omega) fun q i j hq=>h q i j (by omega),Yb fun i j=>h (k+1) i j (by omega),za2]
theorem zcY {labs:Nat→List Int} {b:List Bool} {k:Nat} (hk:0<k) (h:∀q i j,q<k→i<b.length→j<b.length→nth (labs q) i=nth (labs q) j→nthB b i=true→nthB b j=true):evrL labs (botL b (List.replicate b.length true) b.length) k=b:=by
 rw[zeq];exact zac hk h
theorem zdq {labs:Nat→List Int} {b:List Bool} {k:Nat} (hk:0<k) (h:∀q i j,q<k→i<b.length→j<b.length→nth (labs q) i=nth (labs q) j→nthB b i=true→nthB b j=true):evrL labs (botL b b b.length) k=b:=by
 rw[za2];exact zac hk h
end Go.Proofs.YtjpakklplhabdaaGreat
namespace Go.Proofs.YtjpakklplhabdaaGreat
open Go.RowKit
def kBool:Kd Bool where
 size:=1
 rd _ _ cs b:=cs=[.bool b]
 agree h _:=h
 mono h _:=h
 block h:=h
 len h:=by rw[h];rfl
 one h u hu:=by rw[h]at hu;rw[List.mem_singleton.1 hu];rfl
section
variable {S:Nat→Prop} {w:World} {a:Option Addr} {n c:Nat} {l:List Bool}
theorem Sl.boolAt (h:Sl kBool S w (.slice a n c) l) {k:Nat} (hk:k<l.length):w.cell? (adr a k)=some (.bool (nthB l k)):=by
 obtain ⟨cs,h1,h2,_⟩:=h.at hk
 have h2:cs=[.bool l[k]]:=h2
 have:=h1 0 (by show 0<1;omega)
 rw[h2,show k * kBool.size+0=k by show k * 1+0=k;omega]at this
 rw[this,Y4 hk];rfl
theorem Row.bools {g:Nat} {e:TypeId} (h:Row w g e (l.map Value.bool)) (hl:l.length≤140737488355328):Sl kBool (fun b=>b=g) w (.slice (some ⟨g,0,none⟩) l.length l.length) l:=by
 refine ⟨_,_,rfl,.inr ⟨g,0,rfl,h.lt,rfl⟩,Nat.le_refl _,⟨by unfold maxLen;omega,hl⟩,fun j hj=>⟨[.bool l[j]],fun i hi=>?_,rfl⟩⟩
 have hi:i<1:=hi
 obtain rfl:i=0:=by omega
 have e1:adr (some ⟨g,0,none⟩) (j * kBool.size+0)=⟨g,j,none⟩:=by simp[adr,Addr.add,kBool]
 rw[e1,h.cell (j:=j) (u:=.bool l[j]) (by rw[List.getElem?_map,List.getElem?_eq_getElem hj];rfl)]
 rfl
end
theorem zdo (l:List Bool) (k:Nat) (x:Bool):(l.set k x).map Value.bool=(l.map Value.bool).set k (.bool x):=List.map_set ..
theorem rowSetB {w:World} {g:Nat} {t:TypeId} {l:List Bool} (R:Row w g t (l.map Value.bool)) (k:Nat) (x:Bool):Row (w.setCell ⟨g,k,none⟩ (.bool x)) g t ((l.set k x).map Value.bool):=by
 rw[zdo];exact R.set k _
theorem rowBool {w:World} {g:Nat} {t:TypeId} {l:List Bool} (R:Row w g t (l.map Value.bool)) {k:Nat} (h:k<l.length):w.cell? ⟨g,k,none⟩=some (.bool (nthB l k)):=R.cell (by rw[List.getElem?_map,List.getElem?_eq_getElem h,Y4 h];rfl)
theorem ZC {l:List Bool} {k:Nat} {x:Bool} (h:k<l.length):nthB (l.set k x) k=x:=by simp[nthB,h]
theorem ZE {l:List Bool} {k j:Nat} {x:Bool} (h:k≠j):nthB (l.set k x) j=nthB l j:=by
 unfold nthB
 rw[List.getD_eq_getElem?_getD,List.getElem?_set_ne h,←List.getD_eq_getElem?_getD]
def brkM (l:List Int) (b:List Bool) (k:Nat) (x:Int):Option Value:=if brkB l b k x=true then some (.bool true) else none
theorem zc7 (l:List Int) (b:List Bool):brkM l b 0=fun _=>none:=by
 funext x
 unfold brkM
 rw[zcd];rfl
theorem zc5 {l:List Int} {b:List Bool} {k:Nat} (h:nthB b k=true):brkM l b (k+1)=brkM l b k:=by
 funext x
 unfold brkM
 rw[QK,h];simp
theorem zcD {l:List Int} {b:List Bool} {k:Nat} (h:nthB b k=false):brkM l b (k+1)=fun z=>if z=nth l k then some (.bool true) else brkM l b k z:=by
 funext x
 unfold brkM
 rw[QK,h]
 by_cases e:x=nth l k
 ·rw[if_pos e,decide_eq_true e.symm];simp
 ·rw[if_neg e,decide_eq_false (fun e2=>e e2.symm)];simp
theorem zct (l:List Int) (b:List Bool) (k:Nat) (x:Int):(brkM l b k x).getD (.bool false)=.bool (brkB l b k x):=by
 unfold brkM
 cases brkB l b k x<;>rfl
def FstB (E L:List Bool) (k:Nat):Prop:=L.length=E.length∧∀j,j<k→nthB L j=nthB E j
theorem FstB.zero {E L:List Bool} (h:L.length=E.length):FstB E L 0:=⟨h,fun j hj=>by omega⟩
theorem FstB.step {E L:List Bool} {k:Nat} (h:FstB E L k) (hk:k<E.length) {x:Bool} (hx:x=nthB E k):FstB E (L.set k x) (k+1):=by
 refine ⟨by rw[List.length_set];exact h.1,fun j hj=>?_⟩
 by_cases e:k=j
 ·subst e;rw[ZC (by rw[h.1];exact hk),hx]
 ·rw[ZE e];exact h.2 j (by omega)
theorem FstB.done {E L:List Bool} (h:FstB E L E.length):L=E:=yr h.1 fun k hk=>h.2 k (by rw[←h.1];exact hk)
end Go.Proofs.YtjpakklplhabdaaGreat
namespace Go.Proofs.YtjpakklplhabdaaGreat
open Go.RowKit Go.Shelf
attribute [local go_sem ↓] Go.wp_at_zero Go.wp_at_succ
theorem Xs {F:Fence} {n:Nat} {P:Program} {α:Type} {g:Operand} {ps:Array Tmp} {assign body:Code} {Q:Exit→Act→World→Prop} {a:Act} {w:World}
  (hro:F.round=none) (h1:1≤n) {gf:Nat} {lb:Array Value} (hg:a.eval g=.func (.func gf) #[] lb) (hFg:F.fn gf) (eg:∀args w,(callFunc gf args).run P w=.ok (.enter gf args) w)
  {encs:α→Array Value} {Kp:World→World→Prop} {S Sp:List α→Prop} {N:Nat} (hseq:SeqStopsK F (n - 1) P gf lb encs Kp S Sp N w)
  (hKt:∀{A B C:World},Kp A B→Kp B C→Kp A C) (hKb:∀(W:World) (l:Nat) (o o':Obj),w.heap.size≤l→W.heap[l]? =some o→o.isCells=false→o.isWalk=false→Kp W (W.putObj l o')) (hKa:∀(W:World) (o:Obj),w.heap.size≤W.heap.size→Kp W (W.alloc o)) (hps:∀x,(encs x).size=ps.size)
  (I:List α→World→Prop) (Ix:Code→List α→World→Prop) (hI:OwnFrom w.heap.size I) (hIx:∀c,OwnFrom w.heap.size (Ix c)) (h0:I [] w) (hIs:∀pre W,I pre W→w.heap.size≤W.heap.size) (ob:α→Obj) (hob:∀x,(ob x).isCells=true) (a₁:Nat→α→Act)
  (hassign:∀(l:Nat) (x:α) (W:World) (g:Nat) (K:Act→World→Prop),g=W.heap.size→K (a₁ g x) (W.alloc (ob x))→
   assign.wpIn (F.inRound l) (n - 1 - 1) P (Exit.then K (fun _ _ _=>False)) {tmps:=(ps.zip (encs x)).foldl (fun t (p,v)=>t.setIfInBounds p v) a.tmps,defers:=[]} W)
  (hbody:∀(l:Nat) (pre:List α) (x:α) (g:Nat) (W:World),I pre W→w.heap.size≤g→W.heap[g]? =some (ob x)→pre.length<N→body.wpIn (F.inRound l) (n - 1 - 1) P (ownPostG w.heap.size Kp I Ix (pre++[x]) W) (a₁ g x) W)
  (hdone:∀(D:Nat) (xs:List α) (W:World),w.heap.size≤D→S xs→I xs W→W.heap[D]? =some (.deferred (some []))→Q .normal {a with defers:={target:=.collected D,args:=#[]}::a.defers} W)
  (hstop:∀(D:Nat) (c:Code) (pre:List α) (W:World),w.heap.size≤D→Sp pre→Ix c pre W→W.heap[D]? =some (.deferred (some []))→c.wpIn F n P Q {a with defers:={target:=.collected D,args:=#[]}::a.defers} W):
  (Code.rangeFunc g ps assign body).wpIn F n P Q a w:=by
 refine wpIn_rangeFunc_ownH hro h1 hg hFg eg hseq hKt hKb (Below.refl _ _) hps I Ix hI hIx h0 (fun x a' W=>∃g,a'=a₁ g x∧w.heap.size≤g∧W.heap[g]? =some (ob x)) ?_ ?_ ?_ hdone hstop
 ·rintro x a' _ A B row ⟨g,e,h2,h3⟩ hgr hr
  refine ⟨g,e,h2,(hgr.block g (Array.getElem?_eq_some_iff.1 h3).1 fun e2=>?_).trans h3⟩
  obtain ⟨_,o,ho,hc⟩:=hr g e2.symm
  rw[h3]at ho
  cases ho
  rw[hob x]at hc
  cases hc
 ·intro l pre x W K hi hK
  have hle:=hIs pre W hi
  exact hassign l x W W.heap.size K rfl (hK _ _ ((KeepsOthers.alloc W (ob x)).from _) (hKa W (ob x) hle) (hI.alloc _ hi) ⟨_,rfl,hle,World.alloc_heap_new W (ob x)⟩)
 ·rintro l pre x a' W _ _ hi ⟨g,rfl,h2,h3⟩ hlen
  exact hbody l pre x g W hi h2 h3 hlen
end Go.Proofs.YtjpakklplhabdaaGreat
namespace Go.Proofs.YtjpakklplhabdaaGreat
open Go.RowKit
attribute [local go_sem ↓] Go.wp_at_zero Go.wp_at_succ
theorem qz:(Tryz.prog.info? 4).map (fun i=>(i.zero,i.size,i.bytes))=some (some (.bool false),1,1):=by kernel_rfl
theorem Sl.boolIdx {S:Nat→Prop} {w:World} {a:Option Addr} {n c:Nat} {l:List Bool} (h:Sl kBool S w (.slice a n c) l) {k:Nat} (hk:k<l.length) (W:World):(Instr.indexAt 52 (.slice a n c) (.int .i64 k)).run Tryz.prog W=.ok (.pointer (some (adr a k))) W:=by
 obtain ⟨_,_,e,ad,_⟩:=h
 cases e
 obtain ⟨i0,hi,hz0,hz1,hz2⟩:=info_parts qz
 exact zz Tryz.underlying52 hi hz1 ad k hk W
theorem zcS (n:Nat) (b:Bool):List.replicate n (Value.bool b)=(List.replicate n b).map Value.bool:=by simp
theorem Row.madeB (w:World) (n:Nat):Row (w.alloc (.cells (madeCells #[Value.bool false] n) 4)) w.heap.size 4 ((List.replicate n false).map Value.bool):=by
 rw[←zcS];exact Row.made w _ n _
theorem Z5 {S S2:Nat→Prop} {w:World} {va vb:Value} {a b:List Bool} (h:Sl kBool S w va a) (h2:Sl kBool S2 w vb b) (hl:b.length=a.length) (hm:a.length≤100000):
  Calls Tryz.prog 53 #[va,vb] w (Post w fun w' r=>Sl kBool (fun x=>w.heap.size≤x) w' r (botL a b a.length)):=by
 obtain ⟨a1,c1,rfl,_⟩:=h.form
 obtain ⟨a2,c2,rfl,_⟩:=h2.form
 have HA:=zhd h
 have HB:=zhd h2
 have HBA:=zhd (fun k hk=>YU (a:=a) (b:=b) (n:=a.length) (i:=k) hk)
 have HLE:=zhd (yv a b a.length)
 have hmk:=run_make_row' 52 4 (.bool false) 1 Tryz.underlying52 qz rfl .i64 .i64 a.length (by omega) (by omega)
 have hx0:=zb w (.cells (madeCells #[Value.bool false] a.length) 4)
 have R0:=Row.madeB w a.length
 have H0:Hid (FstB (botL a b a.length) (List.replicate a.length false) 0):=zhd (FstB.zero (by rw[HLE.out,List.length_replicate]))
 rw[hl]
 obtain ⟨L0,hL0⟩:∃L0,L0=List.replicate a.length false:=⟨_,rfl⟩
 rw[←hL0]at R0 H0
 obtain ⟨E,hE⟩:∃E,E=botL a b a.length:=⟨_,rfl⟩
 rw[←hE]at HBA HLE H0 ⊢
 have HL:=zhd hl
 clear h h2 hE hL0 hl
 go_enter Tryz.func53,Tryz.ntmps53
 go_wp2
 go_loopw [6,12] (fun _ i wr=>∃(k:Nat) (L:List Bool),k≤a.length∧i=.int .i64 k∧Below w.heap.size w wr∧Row wr w.heap.size 4 (L.map Value.bool)∧Hid (FstB E L k)) (fun _ i _=>a.length - (intOf i).toNat)
 case atStart=>exact ⟨0,L0,Nat.zero_le _,rfl,hx0,R0,H0⟩
 case round=>
  clear hmk hx0 R0 H0
  obtain ⟨k,L,hk,rfl,ex,R,HF⟩:=hrel
  have HLL:L.length=a.length:=HF.out.1.trans HLE.out
  by_cases hlt:k<a.length
  case neg=>
   obtain rfl:k=a.length:=by omega
   have HD:Hid (L=E):=zhd (FstB.done (by rw[HLE.out];exact HF.out))
   have HR:=R.bools (by omega)
   rw[HLL,HD.out]at HR
   clear HF R
   go_wp2
   go_ret
   exact .mk ex (HR.mono fun x hx=>by omega)
  have qa:=(HA.out.ext ex).boolIdx hlt
  have qb:=(HB.out.ext ex).boolIdx (k:=k) (by rw[HL.out];exact hlt)
  rw[HL.out]at qb
  have ca:=(HA.out.ext ex).boolAt hlt
  have cb:=(HB.out.ext ex).boolAt (k:=k) (by rw[HL.out];exact hlt)
  have ba:=World.block_lt_of_cell? _ _ ca
  have bb:=World.block_lt_of_cell? _ _ cb
  have cg:=rowBool R (k:=k) (by omega)
  have fg:=R.free k
  have lg:=R.lt
  have HN:Hid (FstB E (L.set k (nthB a k&&nthB b k)) (k+1)):=zhd (HF.out.step (by rw[HLE.out];exact hlt) (HBA.out k hlt).symm)
  have RN:=rowSetB R k (nthB a k&&nthB b k)
  have exn:=ex.setCell (p:=⟨w.heap.size,k,none⟩) (Nat.le_refl _) (.bool (nthB a k&&nthB b k))
  obtain ⟨x,hx⟩:∃x,x=nthB a k:=⟨_,rfl⟩
  obtain ⟨y,hy⟩:∃y,y=nthB b k:=⟨_,rfl⟩
  rw[←hx,←hy]at HN RN exn
  rw[←hx]at ca
  rw[←hy]at cb
  clear hx hy R ex HF
  cases x with
  | false=>
   rw[Bool.false_and]at HN RN exn
   go_wp2
   go_roundw
   case rel=>exact ⟨k+1,_,by omega,by go_num,exn,RN,HN⟩
   case measure=>simp[intOf];omega
  | true=>
   rw[Bool.true_and]at HN RN exn
   go_wp2
   go_roundw
   case rel=>exact ⟨k+1,_,by omega,by go_num,exn,RN,HN⟩
   case measure=>simp[intOf];omega
theorem zeW {a b:List Bool} {k:Nat} (h:nthB a k≠nthB b k):decide (a=b)=false:=by
 rw[decide_eq_false_iff_not];intro e;exact h (by rw[e])
theorem zek {a b:List Bool} (hl:b.length=a.length) (h:∀k,k<a.length→nthB a k=nthB b k):decide (a=b)=true:=by
 rw[decide_eq_true_iff];exact yr hl.symm h
theorem xR {S S2:Nat→Prop} {w:World} {va vb:Value} {a b:List Bool} (h:Sl kBool S w va a) (h2:Sl kBool S2 w vb b) (hl:b.length=a.length):
  Calls Tryz.prog 14 #[va,vb] w (Post w fun _ r=>r=.bool (decide (a=b))):=by
 have HY:Hid ((∀k,k<a.length→nthB a k≠nthB b k→decide (a=b)=false)∧((∀k,k<a.length→nthB a k=nthB b k)→decide (a=b)=true)):=zhd ⟨fun k _ h=>zeW h,fun h=>zek hl h⟩
 obtain ⟨r,hr⟩:∃r,r=decide (a=b):=⟨_,rfl⟩
 rw[←hr]at HY ⊢
 obtain ⟨a1,c1,rfl,_⟩:=h.form
 obtain ⟨a2,c2,rfl,_⟩:=h2.form
 have HA:=zhd h
 have HB:=zhd h2
 have ex:=Below.refl w.heap.size w
 have hm:(a.length:Int)≤140737488355328:=by have:=h.few;omega
 rw[hl]
 have d0:((a.length:Int) !=(a.length:Int))=false:=by simp
 have HL:=zhd hl
 have H0:Hid (∀i,i<0→nthB a i=nthB b i):=zhd fun i hi=>by omega
 clear h h2 hr hl
 go_enter Tryz.func14,Tryz.ntmps14
 go_wp2
 go_loopw [5,13] (fun _ i wr=>∃k:Nat,k≤a.length∧i=.int .i64 k∧Below w.heap.size w wr∧Hid (∀i,i<k→nthB a i=nthB b i)) (fun _ i _=>a.length - (intOf i).toNat)
 case atStart=>exact ⟨0,Nat.zero_le _,rfl,ex,H0⟩
 case round=>
  clear ex H0
  obtain ⟨k,hk,rfl,ex,HF⟩:=hrel
  by_cases hlt:k<a.length
  case neg=>
   have RE:=zhd (HY.out.2 fun i hi=>HF.out i (by omega))
   clear HY HF
   go_wp2
   go_ret
   exact .mk ex (zv RE.out.symm)
  have qa:=(HA.out.ext ex).boolIdx hlt
  have qb:=(HB.out.ext ex).boolIdx (k:=k) (by rw[HL.out];exact hlt)
  rw[HL.out]at qb
  have ca:=(HA.out.ext ex).boolAt hlt
  have cb:=(HB.out.ext ex).boolAt (k:=k) (by rw[HL.out];exact hlt)
  have ba:=World.block_lt_of_cell? _ _ ca
  have bb:=World.block_lt_of_cell? _ _ cb
  have HYk:=zhd (HY.out.1 k hlt)
  obtain ⟨x,hx⟩:∃x,x=nthB a k:=⟨_,rfl⟩
  obtain ⟨y,hy⟩:∃y,y=nthB b k:=⟨_,rfl⟩
  rw[←hx,←hy]at HYk
  rw[←hx]at ca
  rw[←hy]at cb
  have HXY:Hid (x=nthB a k∧y=nthB b k):=zhd ⟨hx,hy⟩
  clear hx hy
  have HX:=zhd (fun n=>za ex (zh wr.heap.size wr n))
  go_wp2
  go_quiet (fail)
  refine zK fun w2 hq2=>?_
  obtain ⟨n2,rfl⟩:=hq2
  have ex2:=HX.out n2
  obtain ⟨w2,hw2⟩:∃w2,w2=wr.drewN n2:=⟨_,rfl⟩
  rw[←hw2]at ex2 ⊢
  clear HX hw2 qa qb ca cb ba bb ex
  cases x with
  | true=>
   cases y with
   | true=>
    have HN:Hid (∀i,i<k+1→nthB a i=nthB b i):=zhd fun i hi=>by
     by_cases e2:i=k
     ·rw[e2,←HXY.out.1,←HXY.out.2]
     ·exact HF.out i (by omega)
    clear HYk HF HXY
    go_wp2
    go_roundw
    case rel=>exact ⟨k+1,by omega,by go_num,ex2,HN⟩
    case measure=>simp[intOf];omega
   | false=>
    have RE:=zhd (HYk.out (by decide))
    clear HYk HF HXY HY
    go_wp2
    go_ret
    exact .mk ex2 (zv RE.out.symm)
  | false=>
   cases y with
   | true=>
    have RE:=zhd (HYk.out (by decide))
    clear HYk HF HXY HY
    go_wp2
    go_ret
    exact .mk ex2 (zv RE.out.symm)
   | false=>
    have HN:Hid (∀i,i<k+1→nthB a i=nthB b i):=zhd fun i hi=>by
     by_cases e2:i=k
     ·rw[e2,←HXY.out.1,←HXY.out.2]
     ·exact HF.out i (by omega)
    clear HYk HF HXY
    go_wp2
    go_roundw
    case rel=>exact ⟨k+1,by omega,by go_num,ex2,HN⟩
    case measure=>simp[intOf];omega
theorem Z8:(Tryz.prog.info? 4).map (·.size)=some 1:=by kernel_rfl
theorem YG {w:World} {pb po cap:Nat} {y:Bool} (hcy:w.cell? ⟨pb,po,none⟩=some (.bool y)) (n:Nat) (hn:n≤100000):
  Calls Tryz.prog 92 #[.slice (some ⟨pb,po,none⟩) 1 cap,.int .i64 n] w (Post w fun w' r=>Sl kBool (fun b=>w.heap.size≤b) w' r (List.replicate n y)):=by
 obtain ⟨i0,hi,hz0,hz1,hz2⟩:=info_parts qz
 have HCY:=zhd hcy
 have KM:=zhd ((Xo w n hn).mono fun _ _ h=>h.take)
 have hi0:IntKind.u64.wrap (n:Int)=n:=by rw[IntKind.wrap_u64];omega
 have hi1:IntKind.i64.wrap (n:Int)=n:=IntWalk.i64_in _ (by omega)
 clear hcy
 go_enter Tryz.func92,Tryz.ntmps92
 go_wp2_with fail
 refine KM.out.mono ?_
 rintro _ w1 ⟨_,rfl,hq1,rfl⟩
 have hx1:=hq1.ext
 have hcy:=zhd (zm HCY.out hx1)
 clear KM hq1 HCY
 have hs1:=hx1.size
 obtain ⟨g,hg⟩:∃g,g=w1.heap.size:=⟨_,rfl⟩
 have HG:=zhd hg
 have hmc:Hid ((madeCells #[Value.bool false] (n * 1)).toList=List.replicate n (.bool false)):=zhd (by rw[Nat.mul_one];exact (toList_madeCells_one _ _))
 have hm0:min 1 n≤n:=Nat.min_le_right _ _
 obtain ⟨c0,hc0⟩:∃c0,c0=List.replicate (min 1 n) (Value.bool y):=⟨_,rfl⟩
 have HC0:=zhd hc0
 have hcl0:c0.length=min 1 n:=by rw[hc0];simp
 have HCS:Hid (∀j v,c0[j]? =some v→v=.bool y∧j=0):=zhd (fun j v hj=>by
  rw[hc0,List.getElem?_replicate]at hj
  split at hj
  ·injection hj with hj;exact ⟨hj.symm,by omega⟩
  ·cases hj)
 have HC1:Hid (∀v∈c0,v.oneCell'=true):=zhd (fun v hv=>by rw[hc0]at hv;rw[List.eq_of_mem_replicate hv];rfl)
 have hn0:c0.length=Nat.min 1 n:=hcl0
 have hgs:w.heap.size≤g:=by omega
 obtain ⟨r0,hr0⟩:∃r0,r0=List.replicate n (Value.bool false):=⟨_,rfl⟩
 have HR0:=zhd hr0
 have hrl0:r0.length=n:=by rw[hr0];simp
 rw[←hr0]at hmc
 clear hc0 hr0 hg
 go_wp2_with (first
  | (at_make;refine wpList_make_full _ rfl _ _ 52 rfl w.heap.size 4 i0 (.bool false) 1 Tryz.underlying52 hi hz0 hz1 .i64 .i64 _ _ n rfl rfl rfl rfl (by rw[hz2];omega) (by unfold maxLen;omega) hx1.size ?_;intro w2 hown2 hgrow2;have HR2:=zhd ((Row.of_own hown2).1.get hmc.out);rw[←HG.out]at HR2;have hx2:=hx1.grown hgrow2 hs1 (fun j hj=>by cases hj);have hcy2:=zhd (zm hcy.out ((Below.refl _ w1).grown hgrow2 (Nat.le_refl _) (fun j hj=>by cases hj)));clear hown2 hgrow2)
  | (refine wpList_copy_splice rfl (.tmp 31) (.tmp 32) 52 52 rfl 4 Tryz.underlying52 Z8 _ _ n n 1 cap rfl rfl g 0 r0 4 HR2.out c0 hn0 (fun _=>⟨by rw[HG.out],_,rfl,fun j v hj=>by obtain ⟨rfl,rfl⟩:=HCS.out j v hj;exact hcy2.out⟩) (by omega) HC1.out w.heap.size w hx2 hgs ?_;intro w3 hR3 hb3))
 have hR3':=zhd (show Row w3 g 4 (List.replicate (min 1 n) (.bool y)++List.replicate (n - min 1 n) (.bool false)) from by
  have h:=hR3.out
  rw[HC0.out,HR0.out]at h
  have e:=qJ (y:=Value.bool y) (z:=Value.bool false) (k:=0) (n:=n) (m:=min 1 n) (by omega)
  simp only[List.replicate_zero,List.nil_append,Nat.sub_zero,Nat.zero_add]at e
  rw[e]at h
  exact h)
 rw[←HG.out]
 obtain ⟨k0,hk0⟩:∃k0,k0=min 1 n:=⟨_,rfl⟩
 rw[←hk0]at hR3' hm0 ⊢
 have hkz:k0=0→n=0:=by omega
 clear hR3 hk0 hcl0 hn0 HCS HC1 HC0 HR0 hrl0 hmc hx1 hs1
 go_loopw [8] (fun i wr=>∃k:Nat,k≤n∧i=.int .i64 k∧(k=0→n=0)∧Below w.heap.size w wr∧Row wr g 4 (List.replicate k (.bool y)++List.replicate (n - k) (.bool false))) (fun i _=>n - (intOf i).toNat)
 case atStart=>exact ⟨k0,hm0,rfl,hkz,hb3,hR3'.out⟩
 case round=>
  obtain ⟨k,hk,rfl,hkz,hbd,hRd⟩:=hrel
  by_cases hlt:k<n
  ·have hk1:0<k:=by omega
   have hE:Tryz.prog.elem 52=4:=by simp[Program.elem,Tryz.underlying52]
   have hs1:∀W:World,(Instr.slice 52 (.slice (some ⟨g,0,none⟩) n n) (some (.int .i64 k)) none none).run Tryz.prog W=.ok (.slice (some ⟨g,k,none⟩) (n - k) (n - k)) W:=fun W=>by
    rw[run_slice_l (w:=W) _ _ _ _ (by rw[hE];exact Tryz.underlying52) .i64 k (by omega) (by omega),hE]
    simp[sizeOf,typeInfo,hi,hz1,Result.andThen,sliced,show n≠k by omega,Addr.add]
    try omega
   have hs2:∀W:World,(Instr.slice 52 (.slice (some ⟨g,0,none⟩) n n) none (some (.int .i64 k)) none).run Tryz.prog W=.ok (.slice (some ⟨g,0,none⟩) k n) W:=fun W=>by
    rw[run_slice_h (w:=W) _ _ _ _ (by rw[hE];exact Tryz.underlying52) .i64 k (by omega) (by omega),hE]
    simp[sizeOf,typeInfo,hi,hz1,Result.andThen,sliced,show n≠0 by omega,Addr.add]
    try omega
   obtain ⟨m,hm⟩:∃m,m=min k (n - k):=⟨_,rfl⟩
   obtain ⟨cs,hcs⟩:∃cs,cs=List.replicate m (Value.bool y):=⟨_,rfl⟩
   have hcl:cs.length=m:=by rw[hcs];simp
   have HCN:Hid (cs.length=Nat.min k (n - k)):=zhd (hcl.trans hm)
   obtain ⟨rr,hrr⟩:∃rr,rr=List.replicate k (Value.bool y)++List.replicate (n - k) (Value.bool false):=⟨_,rfl⟩
   have HCS:Hid (∀W,Row W g 4 rr→∀j v,cs[j]? =some v→W.cell? ((⟨g,0,none⟩:Addr).add j)=some v):=zhd (fun W hW j v hj=>by
    have hjm:j<m:=by rw[←hcl];exact (List.getElem?_eq_some_iff.1 hj).1
    rw[Addr.add_lit,Nat.zero_add]
    refine hW.cell ?_
    rw[hrr,List.getElem?_append_left (show j<(List.replicate k (Value.bool y)).length by rw[List.length_replicate];omega),List.getElem?_replicate,if_pos (by omega)]
    rw[hcs,List.getElem?_replicate,if_pos hjm]at hj
    exact hj)
   have HFT:Hid (k+cs.length≤rr.length):=zhd (by rw[hcl,hrr];simp;omega)
   have HC1:Hid (∀v∈cs,v.oneCell'=true):=zhd (fun v hv=>by rw[hcs]at hv;rw[List.eq_of_mem_replicate hv];rfl)
   have HSP:Hid (splice rr k cs=List.replicate (k+m) (Value.bool y)++List.replicate (n - (k+m)) (Value.bool false)):=zhd (by rw[hrr,hcs];exact qJ (by omega))
   have HCL:=zhd hcl
   have hmk:k+m≤n:=by omega
   have hm1:0<m:=by omega
   rw[←hrr]at hRd
   have hRr:=zhd hRd
   have hwr:IntKind.i64.wrap ((k:Int)+(m:Int))=(k:Int)+m:=IntWalk.i64_in _ (by omega)
   clear hm hcs hrr hRd hcl
   go_wp2
   rw[←HCL.out]at hwr
   refine zH (fun _:World=>True) (fun i=>false) (by kernel_rfl) ?_ (fun hHeld=>?_)
   ·trivial
   refine anyE_take 0 (v:=?_) rfl (by kernel_rfl) (fun _ _ _ h=>h) (by rfl) ?hy0 hHeld ?r0
   case hy0=>(intro w hSw;(try dsimp only at hSw);go_simp;try with_reducible rfl)
   try simp only[Act.put,zsa,zsz,zss]
   refine anyE_take 1 (v:=?_) rfl (by kernel_rfl) (fun _ _ _ h=>h) (by rfl) ?hy1 hHeld ?r1
   case hy1=>(intro w hSw;(try dsimp only at hSw);go_simp;try with_reducible rfl)
   try simp only[Act.put,zsa,zsz,zss]
   refine anyE_take 2 (v:=?_) rfl (by kernel_rfl) (fun _ _ _ h=>h) (by rfl) ?hy2 hHeld ?r2
   case hy2=>(intro w hSw;(try dsimp only at hSw);go_simp;try with_reducible rfl)
   try simp only[Act.put,zsa,zsz,zss]
   refine anyE_take 3 (v:=?_) rfl (by kernel_rfl) (fun _ _ _ h=>h) (by rfl) ?hy3 hHeld ?r3
   case hy3=>(intro w hSw;(try dsimp only at hSw);go_simp;try with_reducible rfl)
   try simp only[Act.put,zsa,zsz,zss]
   refine anyE_take 4 (v:=?_) rfl (by kernel_rfl) (fun _ _ _ h=>h) (by rfl) ?hy4 hHeld ?r4
   case hy4=>(intro w hSw;(try dsimp only at hSw);go_simp;try with_reducible rfl)
   try simp only[Act.put,zsa,zsz,zss]
   refine anyE_take 5 (v:=?_) rfl (by kernel_rfl) (fun _ _ _ h=>h) (by rfl) ?hy5 hHeld ?r5
   case hy5=>(intro w hSw;(try dsimp only at hSw);go_simp;try with_reducible rfl)
   try simp only[Act.put,zsa,zsz,zss]
   refine anyE_take 6 (v:=?_) rfl (by kernel_rfl) (fun _ _ _ h=>h) (by rfl) ?hy6 hHeld ?r6
   case hy6=>(intro w hSw;(try dsimp only at hSw);go_simp;try with_reducible rfl)
   try simp only[Act.put,zsa,zsz,zss]
   refine anyE_one 7 rfl (by kernel_rfl) (fun K hK=>?_)
   (refine step_copy_splice rfl (.tmp 41) (.tmp 44) 52 52 rfl 4 Tryz.underlying52 Z8 (some ⟨g,k,none⟩) (some ⟨g,0,none⟩) (n - k) (n - k) k n (by rfl) (by rfl) g k rr 4 hRr.out cs HCN.out (fun _=>⟨rfl,_,rfl,HCS.out _ hRr.out⟩) HFT.out HC1.out w.heap.size w (zx hbd 1) hgs ?_;intro w5 hR5 hb5)
   refine hK.out _ _ (fun _=>trivial) (fun hHeld=>?_);replace hHeld:=hHeld rfl
   clear hK K
   try simp only[Act.put,zsa,zsz,zss]
   refine anyE_take 8 (v:=?_) rfl (by kernel_rfl) (fun _ _ _ h=>h) (by rfl) ?hy8 hHeld ?r8
   case hy8=>(intro w hSw;(try dsimp only at hSw);go_simp;try with_reducible rfl)
   try simp only[Act.put,zsa,zsz,zss]
   refine anyE_take 9 (v:=?_) rfl (by kernel_rfl) (fun _ _ _ h=>h) (by rfl) ?hy9 hHeld ?r9
   case hy9=>(intro w hSw;(try dsimp only at hSw);go_simp;try with_reducible rfl)
   try simp only[Act.put,zsa,zsz,zss]
   refine zy (by kernel_rfl) ?_ _
   have hRn:=hR5.out
   rw[HSP.out]at hRn
   have HRN:=zhd hRn
   clear hRn hR5
   go_wp2
   go_roundw
   case rel=>exact ⟨k+m,hmk,by simp[HCL.out],by omega,hb5,HRN.out⟩
   case measure=>
    have h1:=HCL.out
    simp only[intOf,h1,goInt]
    omega
  ·obtain rfl:k=n:=by omega
   have hR':=zhd (show Row wr g 4 ((List.replicate k y).map Value.bool) from by simpa using hRd)
   clear hRd
   go_wp2
   go_ret
   have HB:=hR'.out.bools (by simp;omega)
   rw[List.length_replicate]at HB
   exact .mk hbd (HB.mono fun x hx=>by omega)
end Go.Proofs.YtjpakklplhabdaaGreat
namespace Go.Proofs.YtjpakklplhabdaaGreat
open Go.ChangeShapes Go.WideShapes Go.ChangeAt Go.RowKit
theorem ownGodebug:ownKnob Tryz.prog.godebug=none:=by kernel_rfl
theorem laidOutAll:laidOutB Tryz.prog=true:=by kernel_rfl
theorem zW:Tryz.prog.cellsOf 3=1:=by kernel_rfl
theorem qQ:Tryz.prog.cellsOf 30=1:=by kernel_rfl
theorem Za:Tryz.prog.cellsOf 47=1:=by kernel_rfl
theorem Zm:Tryz.prog.cellsOf 63=5:=by kernel_rfl
theorem Zc:Tryz.prog.cellsOf 65=6:=by kernel_rfl
theorem xZ:Tryz.prog.cellsOf 67=7:=by kernel_rfl
theorem Zu:Tryz.prog.cellsOf 69=8:=by kernel_rfl
theorem XI:Tryz.prog.cellsOf 70=1:=by kernel_rfl
theorem Y8:Tryz.prog.cellsOf 25=1:=by kernel_rfl
theorem Zl:Tryz.prog.cellsOf 62=3:=by kernel_rfl
theorem QO:Tryz.prog.cellsOf 22=1:=by kernel_rfl
theorem zaA:Tryz.prog.cellsOf 24=4:=by kernel_rfl
theorem zbt:Tryz.prog.cellsOf 27=2:=by kernel_rfl
theorem zay:Tryz.prog.cellsOf 29=7:=by kernel_rfl
theorem XT:Tryz.prog.cellsOf 32=1:=by kernel_rfl
def Lim {H:Type} (t:TypeId) (d:DataW H):Prop:=∀n∈d.weights Tryz.prog t,n≤reachBytes
section
variable {H:Type} {enc:TypeId×Value→H} {W:World}
theorem zcE {ts:List TypeId} {ds:List (DataW H)} (h:(DataW.weightsEach Tryz.prog ts ds).all (·≤reachBytes)=true) {j:Nat} {t:TypeId} {d:DataW H} (ht:ts[j]? =some t) (hd:ds[j]? =some d):Lim t d:=fun n hn=>by
 have:=List.all_eq_true.1 h _ (DataW.weights_mem_each ht hd n hn)
 simpa using this
theorem zdD {t:TypeId} {fs:Array Field} (hu:Tryz.prog.underlying t=some (.struct fs)) {parts:List (DataW H)} (h:Lim t (.agg parts)) {i:Nat} {f:Field} {d:DataW H} (hf:fs[i]? =some f) (hd:parts[i]? =some d):Lim f.type d:=fun n hn=>
 h n (by
  simp only[DataW.weights,hu]
  exact DataW.weights_mem_each (j:=i) (by simp[hf]) hd n hn)
theorem zeB {e:TypeId} {l:List (DataW H)} {d:DataW H} (hd:d∈l) {n:Nat} (hn:n∈d.weights Tryz.prog e):n∈DataW.weightsAll Tryz.prog e l:=by
 induction l with
 | nil=>cases hd
 | cons x r ih=>
  simp only[DataW.weightsAll,List.mem_append]
  rcases List.mem_cons.1 hd with rfl | h
  ·exact .inl hn
  ·exact .inr (ih h)
theorem zcN {t e:TypeId} (hu:Tryz.prog.underlying t=some (.slice e)) {el sp:List (DataW H)} (h:Lim t (.slice el sp)):(el.length+sp.length) * Tryz.prog.bytesOf e≤reachBytes∧∀d∈el,Lim e d:=by
 unfold Lim at h
 simp only[DataW.weights,hu]at h
 exact ⟨h _ (List.mem_cons_self ..),fun d hd n hn=>h n (List.mem_cons_of_mem _ (List.mem_append.2 (.inl (zeB hd hn))))⟩
theorem zcn {t:TypeId} {v:Value} {d:DataW H} {p:List MemPlace}
  (h:DataW.Trod enc Tryz.prog W 0 (fun _=>true) true t v d p):∀x∈p,x.block<W.heap.size:=by
 obtain ⟨m,hm⟩:=h;exact DataW.trod_lt m _ _ _ hm
theorem QV {a:Addr} {u:Value} (c0:W.cell? a=some u):a.spot=none:=by
 unfold World.cell? at c0
 split at c0
 ·split at c0
  ·cases c0
  ·rename_i hs;simpa using hs
 ·cases c0
theorem ZA (a:Addr):a.add 0=a:=by simp[Addr.add]
theorem X9 {a:Addr} (h:a.spot=none) (j:Nat):a.add j=adr (some a) j:=by
 unfold Addr.add adr
 split
 ·rename_i hj;subst hj;cases a;simp at h;simp[h]
 ·rfl
theorem zdH {a:Addr} (h:a.spot=none) (k j:Nat):(a.add k).add j=adr (some a) (k+j):=by
 rw[X9 h k,X9 (a:=adr (some a) k) rfl j]
 simp[adr,Nat.add_assoc]
theorem zbE {α:Type} {Q:Nat→α→Prop}:∀n:Nat,(∀i,i<n→∃e,Q i e)→∃l:List α,l.length=n∧∀i (h:i<l.length),Q i l[i]:=by
 intro n
 induction n with
 | zero=>intro _;exact ⟨[],rfl,fun i hi=>by simp at hi⟩
 | succ n ih=>
  intro h
  obtain ⟨l,hl,hq⟩:=ih fun i hi=>h i (by omega)
  obtain ⟨e,he⟩:=h n (by omega)
  refine ⟨l++[e],by simp[hl],fun i hi=>?_⟩
  by_cases hin:i<l.length
  ·rw[List.getElem_append_left hin];exact hq i hin
  ·obtain rfl:i=l.length:=by simp at hi;omega
   rw[List.getElem_append_right (Nat.le_refl _)]
   simp
   rw[hl];exact he
theorem qK {α:Type} {K:Kd α} {t e:TypeId} (ht:Tryz.prog.underlying t=some (.slice e)) (hz:Tryz.prog.cellsOf e=K.size) (hp:0<K.size) (hb:1≤Tryz.prog.bytesOf e)
  (hr:∀(m:Nat) (cs:List Value) (x:DataW H×List MemPlace),DataW.trod enc Tryz.prog W 0 (fun _=>true) true m e cs=some x→Lim e x.1→∃y,K.rd (fun _=>True) W cs y)
  {m:Nat} {cs:List Value} {x:DataW H×List MemPlace} (h:DataW.trod enc Tryz.prog W 0 (fun _=>true) true m t cs=some x) (hl:Lim t x.1):∃v l,cs=[v]∧Sl K (fun _=>True) W v l:=by
 rcases DataW.trod_slice ht h with ⟨e2,_⟩ | ⟨a,len,cap,elems,rest,m',rfl,e2,hx,_,hlc,hm,hel,hi,hsp,_⟩
 ·exact ⟨_,[],e2,Sl.nil K _ _⟩
 ·rw[hz]at hi hsp
  subst e2
  rw[hx]at hl
  obtain ⟨hw,hle⟩:=zcN ht hl
  have hlen:len≤140737488355328:=by
   have h1:(elems.map (·.1)).length+(rest.map (·.1)).length≤((elems.map (·.1)).length+(rest.map (·.1)).length) * Tryz.prog.bytesOf e:=Nat.le_mul_of_pos_right _ hb
   have h2:reachBytes=140737488351232:=rfl
   rw[h2]at hw
   simp only[List.length_map]at h1 hw
   omega
  by_cases hc0:cap=0
  ·have hl0:len=0:=by omega
   subst hc0 hl0
   exact ⟨_,[],rfl,some a,0,rfl,.inl ⟨rfl,rfl⟩,Nat.le_refl _,⟨by simp[maxLen],by simp⟩,fun j hj=>by simp at hj⟩
  ·have key0:∀{l:List (DataW H×List MemPlace)},0<l.length→(W.cells? 0 (a.add (0 * K.size)) K.size).bind (DataW.trod enc Tryz.prog W 0 (fun _=>true) true m' e)=l[0]?→∃u,W.cell? a=some u:=by
    intro l h0 hq
    rw[List.getElem?_eq_getElem h0]at hq
    cases hc:W.cells? 0 (a.add (0 * K.size)) K.size with
    | none=>rw[hc]at hq;cases hq
    | some cs'=>
     obtain ⟨_,hl3,hat⟩:=World.cells?_some hc
     have:=hat 0 hp
     rw[Nat.zero_mul,ZA,ZA,List.getElem?_eq_getElem (by omega)]at this
     exact ⟨_,this⟩
   have hcell0:∃u,W.cell? a=some u:=by
    by_cases hl0:len=0
    ·have h3:=(hsp rfl).2 0 (by omega)
     have hrl:=(hsp rfl).1
     rw[hl0]at h3
     exact key0 (by omega) h3
    ·exact key0 (by omega) (hi 0 (by omega))
   obtain ⟨u,hu⟩:=hcell0
   have hs:=QV hu
   have hbl:a.block<W.heap.size:=World.block_lt_of_cell? W _ hu
   obtain ⟨es,hes,hq⟩:=zbE (Q:=fun i y=>∃cs:List Value,(∀j,j<K.size→W.cell? (adr (some a) (i * K.size+j))=cs[j]?)∧K.rd (fun _=>True) W cs y) len (by
    intro i hil
    have h3:=hi i hil
    rw[List.getElem?_eq_getElem (by omega)]at h3
    cases hc:W.cells? 0 (a.add (i * K.size)) K.size with
    | none=>rw[hc]at h3;cases h3
    | some cs'=>
     rw[hc]at h3
     obtain ⟨_,hl3,hat⟩:=World.cells?_some hc
     obtain ⟨y,hy⟩:=hr m' cs' _ h3 (hle _ (List.mem_map.2 ⟨_,List.getElem_mem (by omega),rfl⟩))
     exact ⟨y,cs',fun j hj=>by rw[←zdH hs];exact hat j hj,hy⟩)
   subst hes
   exact ⟨_,es,rfl,some a,cap,rfl,.inr ⟨a.block,a.off,by cases a;simp at hs;simp[hs],hbl,trivial⟩,hlc,⟨hm,hlen⟩,hq⟩
theorem qD {m:Nat} {cs:List Value} {x:DataW H×List MemPlace} (hf:DataW.trod enc Tryz.prog W 0 (fun _=>true) true m 30 cs=some x):∃v l,cs=[v]∧Ints (fun _=>True) W v l:=by
 rcases open_ints Tryz.underlying30 Tryz.underlying3 (by kernel_rfl) hf with ⟨hcs,_⟩ | ⟨x,l,c,zs,hcs,_,hl,hm,hz,_,hcell,hwz⟩
 ·exact ⟨_,[],hcs,Ints.nil _ _⟩
 ·have hz':zs.length=c:=by simpa using hz
  have hlen:(zs.take l).length=l:=by simp;omega
  refine ⟨_,zs.take l,hcs,?_⟩
  have hw:∀y∈zs.take l,WF y:=fun y hy=>WF.of_lit (hwz y (List.mem_of_mem_take hy))
  by_cases h0:zs.length=0
  ·have hl0:l=0:=by omega
   have hc0:c=0:=by omega
   subst hl0 hc0
   exact ⟨some x,0,by simp,.inl ⟨by simp,rfl⟩,by simp,by simp[maxLen],fun j hj=>by simp at hj,hw⟩
  ·have c0:=hcell 0 (by omega)
   rw[ZA]at c0
   have hx:=QV c0
   have hb:x.block<W.heap.size:=World.block_lt_of_cell? W _ c0
   refine ⟨some x,c,by rw[hlen],.inr ⟨x.block,x.off,by cases x;simp at hx;simp[hx],hb,trivial⟩,by omega,hm,fun j hj=>?_,hw⟩
   have:=hcell j (by omega)
   rw[X9 hx]at this
   rw[this]
   congr 2
   rw[hlen]at hj
   simp[nth,hj]
theorem fld {t:TypeId} {fs:Array Field} (hu:Tryz.prog.underlying t=some (.struct fs)) {m:Nat} {cs:List Value} {x:DataW H×List MemPlace} (h:DataW.trod enc Tryz.prog W 0 (fun _=>true) true m t cs=some x) (hl:Lim t x.1):
  cs.length=Tryz.prog.cellsOf t∧∀(i:Nat) (f:Field),fs[i]? =some f→∃m' y,DataW.trod enc Tryz.prog W 0 (fun _=>true) true m' f.type ((cs.drop f.offset).take (Tryz.prog.cellsOf f.type))=some y∧Lim f.type y.1:=by
 obtain ⟨xs,n,rfl,hx,hlen,hxl,hg⟩:=DataW.trod_struct hu h
 refine ⟨hlen,fun i f hf=>?_⟩
 have hi:i<xs.length:=by
  rw[hxl]
  exact (Array.getElem?_eq_some_iff.1 hf).1
 have h1:=hg i f hf
 rw[List.getElem?_eq_getElem hi]at h1
 rw[hx]at hl
 exact ⟨n,xs[i],h1,zdD hu hl hf (by rw[List.getElem?_map,List.getElem?_eq_getElem hi];rfl)⟩
def Flt (enc:TypeId×Value→H) (W:World) (t:TypeId) (n:Nat):Prop:=
 ∀(m:Nat) (cs:List Value) (x:DataW H×List MemPlace),DataW.trod enc Tryz.prog W 0 (fun _=>true) true m t cs=some x→∃l:List Int,l.length=n∧cs=l.map (Value.int .i64)∧∀y∈l,WF y
theorem YC:Flt enc W 3 1:=fun m cs x h=>by
 obtain ⟨z,e0,_,w0⟩:=DataW.trod_int Tryz.underlying3 h
 exact ⟨[z],rfl,e0,fun y hy=>by rw[List.mem_singleton.1 hy];exact WF.of_lit w0⟩
theorem za3 {cs:List Value} {s n:Nat} {l l2:List Int} (hl:l.length=s) (h1:cs.take s=l.map (Value.int .i64)) (w1:∀y∈l,WF y) (hl2:l2.length=n) (h2:(cs.drop s).take n=l2.map (Value.int .i64)) (w2:∀y∈l2,WF y):
  ∃l:List Int,l.length=s+n∧cs.take (s+n)=l.map (Value.int .i64)∧∀y∈l,WF y:=
 ⟨l++l2,by simp[hl,hl2],by rw[List.take_add,h1,h2,List.map_append],fun y hy=>(List.mem_append.1 hy).elim (w1 y) (w2 y)⟩
theorem zb3 {t e:TypeId} {n:Nat} (hu:Tryz.prog.underlying t=some (.array n e)) (hc:Tryz.prog.cellsOf t=n) (he:Tryz.prog.cellsOf e=1) (hf:Flt enc W e 1):Flt enc W t n:=fun m cs x h=>by
 obtain ⟨xs,m',rfl,hx,hlen,hxl,hg⟩:=DataW.trod_array hu h
 have key:∀k,k≤n→∃l:List Int,l.length=k∧cs.take k=l.map (Value.int .i64)∧∀y∈l,WF y:=by
  intro k
  induction k with
  | zero=>intro _;exact ⟨[],rfl,by simp,fun y hy=>by cases hy⟩
  | succ k ih=>
   intro hk
   obtain ⟨l,hl,h1,w1⟩:=ih (by omega)
   have h2:=hg k (by omega)
   rw[he,Nat.mul_one,List.getElem?_eq_getElem (by omega)]at h2
   obtain ⟨l2,hl2,h3,w2⟩:=hf _ _ _ h2
   exact za3 hl h1 w1 hl2 h3 w2
 obtain ⟨l,hl,h1,w⟩:=key n (Nat.le_refl _)
 rw[List.take_of_length_le (by omega)]at h1
 exact ⟨l,hl,h1,w⟩
theorem xL {t:TypeId} {fs:Array Field} {ns:List Nat} (hu:Tryz.prog.underlying t=some (.struct fs)) (hc:Tryz.prog.cellsOf t=ns.sum)
  (hf:∀(i n:Nat),ns[i]? =some n→∃f,fs[i]? =some f∧f.offset=(ns.take i).sum∧Tryz.prog.cellsOf f.type=n∧Flt enc W f.type n):Flt enc W t ns.sum:=fun m cs x h=>by
 obtain ⟨xs,m',rfl,hx,hlen,hxl,hg⟩:=DataW.trod_struct hu h
 have key:∀k,k≤ns.length→∃l:List Int,l.length=(ns.take k).sum∧cs.take (ns.take k).sum=l.map (Value.int .i64)∧∀y∈l,WF y:=by
  intro k
  induction k with
  | zero=>intro _;exact ⟨[],rfl,by simp,fun y hy=>by cases hy⟩
  | succ k ih=>
   intro hk
   obtain ⟨l,hl,h1,w1⟩:=ih (by omega)
   obtain ⟨f,f1,f2,f3,f4⟩:=hf k ns[k] (List.getElem?_eq_getElem (by omega))
   have h2:=hg k f f1
   have hi:k<xs.length:=by rw[hxl];exact (Array.getElem?_eq_some_iff.1 f1).1
   rw[f2,f3,List.getElem?_eq_getElem hi]at h2
   obtain ⟨l2,hl2,h3,w2⟩:=f4 _ _ _ h2
   have hs:(ns.take (k+1)).sum=(ns.take k).sum+ns[k]:=by rw[List.take_add_one,List.getElem?_eq_getElem (by omega),List.sum_append];simp
   rw[hs]
   exact za3 hl h1 w1 hl2 h3 w2
 obtain ⟨l,hl,h1,w⟩:=key ns.length (Nat.le_refl _)
 rw[List.take_length]at hl h1
 rw[List.take_of_length_le (by omega)]at h1
 exact ⟨l,hl,h1,w⟩
theorem zdW:Flt enc W 63 5:=zb3 Tryz.underlying63 Zm zW YC
theorem zc9:Flt enc W 65 6:=xL (ns:=[1,5]) Tryz.underlying65 Zc fun i n hi=>by
 match i,hi with
 | 0,hi=>cases hi;exact ⟨_,rfl,rfl,zW,YC⟩
 | 1,hi=>cases hi;exact ⟨_,rfl,rfl,Zm,zdW⟩
theorem zbY:Flt enc W 67 7:=xL (ns:=[6,1]) Tryz.underlying67 xZ fun i n hi=>by
 match i,hi with
 | 0,hi=>cases hi;exact ⟨_,rfl,rfl,Zc,zc9⟩
 | 1,hi=>cases hi;exact ⟨_,rfl,rfl,zW,YC⟩
theorem zdM:Flt enc W 69 8:=xL (ns:=[7,1]) Tryz.underlying69 Zu fun i n hi=>by
 match i,hi with
 | 0,hi=>cases hi;exact ⟨_,rfl,rfl,xZ,zbY⟩
 | 1,hi=>cases hi;exact ⟨_,rfl,rfl,zW,YC⟩
theorem zez {t:TypeId} {n:Nat} (h:Flt enc W t n):∀(m:Nat) (cs:List Value) (x:DataW H×List MemPlace),DataW.trod enc Tryz.prog W 0 (fun _=>true) true m t cs=some x→Lim t x.1→∃y,(kFlat n).rd (fun _=>True) W cs y:=
 fun m cs x hx _=>by
  obtain ⟨l,h1,h2,h3⟩:=h m cs x hx
  exact ⟨l,h1,h2,h3⟩
theorem YN {m:Nat} {cs:List Value} {x:DataW H×List MemPlace} (h:DataW.trod enc Tryz.prog W 0 (fun _=>true) true m 70 cs=some x) (hl:Lim 70 x.1):∃v l,cs=[v]∧Sl (kFlat 8) (fun _=>True) W v l:=
 qK (K:=kFlat 8) Tryz.underlying70 Zu (by decide) (of_decide_eq_true (by kernel_rfl)) (zez zdM) h hl
theorem Z3 {m:Nat} {cs:List Value} {x:DataW H×List MemPlace} (h:DataW.trod enc Tryz.prog W 0 (fun _=>true) true m 25 cs=some x) (hl:Lim 25 x.1):∃v l,cs=[v]∧Sl (kSl (kFlat 8)) (fun _=>True) W v l:=
 qK (K:=kSl (kFlat 8)) Tryz.underlying25 XI (by decide) (of_decide_eq_true (by kernel_rfl)) (fun m cs x h1 h2=>let ⟨v,l,e,h3⟩:=YN h1 h2;⟨l,v,e,h3⟩) h hl
theorem xm {m:Nat} {cs:List Value} {x:DataW H×List MemPlace} (h:DataW.trod enc Tryz.prog W 0 (fun _=>true) true m 47 cs=some x) (hl:Lim 47 x.1):∃v l,cs=[v]∧Lists (fun _=>True) W v l:=
 let ⟨v,l,e,h1⟩:=qK (K:=kInts) Tryz.underlying47 qQ (by decide) (of_decide_eq_true (by kernel_rfl)) (fun m cs x h1 h2=>let ⟨v,l,e,h3⟩:=qD h1;⟨l,v,e,h3⟩) h hl
 ⟨v,l,e,.of_sl h1⟩
theorem getR1 {α:Type} {l:List α} (h:l.length=1):∃a0,l=[a0]:=by
 match l,h with
 | [a0],_=>exact ⟨a0,rfl⟩
theorem getR3 {α:Type} {l:List α} (h:l.length=3):∃a0 a1 a2,l=[a0,a1,a2]:=by
 match l,h with
 | [a0,a1,a2],_=>exact ⟨a0,a1,a2,rfl⟩
theorem QY {m:Nat} {c:Value} {y:DataW H×List MemPlace} (h:DataW.trod enc Tryz.prog W 0 (fun _=>true) true m 3 [c]=some y):∃z:Int,c=.int .i64 z:=by
 obtain ⟨z,e0,_,_⟩:=DataW.trod_int Tryz.underlying3 h
 exact ⟨z,by simpa using e0⟩
theorem QD (m:Nat) (cs:List Value) (x:DataW H×List MemPlace) (h:DataW.trod enc Tryz.prog W 0 (fun _=>true) true m 62 cs=some x) (hl:Lim 62 x.1):∃y,kCase.rd (fun _=>True) W cs y:=by
 obtain ⟨hlen,hg⟩:=fld Tryz.underlying62 h hl
 rw[Zl]at hlen
 obtain ⟨c0,c1,c2,rfl⟩:=getR3 hlen
 obtain ⟨m0,y0,h0,l0⟩:=hg 0 _ rfl
 replace h0:DataW.trod enc Tryz.prog W 0 (fun _=>true) true m0 30 (([c0,c1,c2].drop 0).take (Tryz.prog.cellsOf 30))=some y0:=h0
 rw[qQ]at h0
 replace h0:DataW.trod enc Tryz.prog W 0 (fun _=>true) true m0 30 [c0]=some y0:=h0
 obtain ⟨m1,y1,h1,l1⟩:=hg 1 _ rfl
 replace h1:DataW.trod enc Tryz.prog W 0 (fun _=>true) true m1 47 (([c0,c1,c2].drop 1).take (Tryz.prog.cellsOf 47))=some y1:=h1
 rw[Za]at h1
 replace h1:DataW.trod enc Tryz.prog W 0 (fun _=>true) true m1 47 [c1]=some y1:=h1
 obtain ⟨m2,y2,h2,l2⟩:=hg 2 _ rfl
 replace h2:DataW.trod enc Tryz.prog W 0 (fun _=>true) true m2 47 (([c0,c1,c2].drop 2).take (Tryz.prog.cellsOf 47))=some y2:=h2
 rw[Za]at h2
 replace h2:DataW.trod enc Tryz.prog W 0 (fun _=>true) true m2 47 [c2]=some y2:=h2
 obtain ⟨v0,i0,e0,r0⟩:=qD h0
 obtain ⟨v1,i1,e1,r1⟩:=xm h1 l1
 obtain ⟨v2,i2,e2,r2⟩:=xm h2 l2
 simp only[List.cons.injEq,and_true]at e0 e1 e2
 subst e0 e1 e2
 exact ⟨⟨i0,i1,i2⟩,_,_,_,rfl,r0,r1,r2⟩
theorem YD {m:Nat} {cs:List Value} {x:DataW H×List MemPlace} (h:DataW.trod enc Tryz.prog W 0 (fun _=>true) true m 22 cs=some x) (hl:Lim 22 x.1):∃v l,cs=[v]∧Sl (kCase) (fun _=>True) W v l:=
 qK (K:=kCase) Tryz.underlying22 Zl (by decide) (of_decide_eq_true (by kernel_rfl)) (QD) h hl
theorem zbU {base:Nat} {v:Value} {d:DataW H} {p:List MemPlace} (hl:Lim 32 d) (hv:Value.okWide Tryz.prog W .any base 32 v)
  (h:DataW.Trod enc Tryz.prog W 0 (fun _=>true) true 32 v d p):∃u l,v=.agg #[u]∧Ints (fun _=>True) W u l:=by
 obtain ⟨cs,rfl,_⟩:=okWide_struct Tryz.underlying32 hv
 obtain ⟨fuel,hf⟩:=h
 obtain ⟨hlen,hg⟩:=fld Tryz.underlying32 hf hl
 rw[XT]at hlen
 obtain ⟨l⟩:=cs
 obtain ⟨c0,hl2⟩:=getR1 hlen
 simp only[Value.cells]at hl2
 subst hl2
 clear hf hlen hv
 obtain ⟨m0,y0,h0,l0⟩:=hg 0 _ rfl
 replace h0:DataW.trod enc Tryz.prog W 0 (fun _=>true) true m0 30 (([c0].drop 0).take (Tryz.prog.cellsOf 30))=some y0:=h0
 rw[qQ]at h0
 replace h0:DataW.trod enc Tryz.prog W 0 (fun _=>true) true m0 30 [c0]=some y0:=h0
 obtain ⟨v0,i0,e0,r0⟩:=qD h0
 simp only[List.cons.injEq,and_true]at e0
 subst e0
 exact ⟨_,i0,rfl,r0⟩
end
end Go.Proofs.YtjpakklplhabdaaGreat
namespace Go.Proofs.YtjpakklplhabdaaGreat
open Go.ChangeShapes Go.WideShapes Go.ChangeAt Go.RowKit
section
variable {H:Type} {enc:TypeId×Value→H} {W:World}
theorem getR7 {α:Type} {l:List α} (h:l.length=7):∃a0 a1 a2 a3 a4 a5 a6,l=[a0,a1,a2,a3,a4,a5,a6]:=by
 match l,h with
 | [a0,a1,a2,a3,a4,a5,a6],_=>exact ⟨a0,a1,a2,a3,a4,a5,a6,rfl⟩
theorem zcC {base:Nat} {v:Value} {d:DataW H} {p:List MemPlace} (hl:Lim 29 d) (hv:Value.okWide Tryz.prog W .any base 29 v)
  (h:DataW.Trod enc Tryz.prog W 0 (fun _=>true) true 29 v d p):∃(p:ProbD) (vc vs:Value),v=.agg #[.int .i64 p.n,.int .i64 p.ins,.int .i64 p.outs,vc,.int .i64 p.an,vs,.int .i64 p.rounds]∧Sl kCase (fun _=>True) W vc p.cs∧Sl (kSl (kFlat 8)) (fun _=>True) W vs p.st:=by
 obtain ⟨cs,rfl,_⟩:=okWide_struct Tryz.underlying29 hv
 obtain ⟨fuel,hf⟩:=h
 obtain ⟨hlen,gp⟩:=fld Tryz.underlying29 hf hl
 rw[zay]at hlen
 obtain ⟨l⟩:=cs
 obtain ⟨c0,c1,c2,c3,c4,c5,c6,hl2⟩:=getR7 hlen
 simp only[Value.cells]at hl2
 subst hl2
 clear hf hlen hv
 obtain ⟨m3,y3,h3,l3⟩:=gp 0 _ rfl
 replace h3:DataW.trod enc Tryz.prog W 0 (fun _=>true) true m3 24 (([c0,c1,c2,c3,c4,c5,c6].drop 0).take (Tryz.prog.cellsOf 24))=some y3:=h3
 rw[zaA]at h3
 replace h3:DataW.trod enc Tryz.prog W 0 (fun _=>true) true m3 24 [c0,c1,c2,c3]=some y3:=h3
 obtain ⟨m4,y4,h4,l4⟩:=gp 1 _ rfl
 replace h4:DataW.trod enc Tryz.prog W 0 (fun _=>true) true m4 27 (([c0,c1,c2,c3,c4,c5,c6].drop 4).take (Tryz.prog.cellsOf 27))=some y4:=h4
 rw[zbt]at h4
 replace h4:DataW.trod enc Tryz.prog W 0 (fun _=>true) true m4 27 [c4,c5]=some y4:=h4
 obtain ⟨m5,y5,h5,l5⟩:=gp 2 _ rfl
 replace h5:DataW.trod enc Tryz.prog W 0 (fun _=>true) true m5 3 (([c0,c1,c2,c3,c4,c5,c6].drop 6).take (Tryz.prog.cellsOf 3))=some y5:=h5
 rw[zW]at h5
 replace h5:DataW.trod enc Tryz.prog W 0 (fun _=>true) true m5 3 [c6]=some y5:=h5
 obtain ⟨_,gk⟩:=fld Tryz.underlying24 h3 l3
 obtain ⟨m8,y8,h8,l8⟩:=gk 0 _ rfl
 replace h8:DataW.trod enc Tryz.prog W 0 (fun _=>true) true m8 3 (([c0,c1,c2,c3].drop 0).take (Tryz.prog.cellsOf 3))=some y8:=h8
 rw[zW]at h8
 replace h8:DataW.trod enc Tryz.prog W 0 (fun _=>true) true m8 3 [c0]=some y8:=h8
 obtain ⟨m9,y9,h9,l9⟩:=gk 1 _ rfl
 replace h9:DataW.trod enc Tryz.prog W 0 (fun _=>true) true m9 3 (([c0,c1,c2,c3].drop 1).take (Tryz.prog.cellsOf 3))=some y9:=h9
 rw[zW]at h9
 replace h9:DataW.trod enc Tryz.prog W 0 (fun _=>true) true m9 3 [c1]=some y9:=h9
 obtain ⟨m10,y10,h10,l10⟩:=gk 2 _ rfl
 replace h10:DataW.trod enc Tryz.prog W 0 (fun _=>true) true m10 3 (([c0,c1,c2,c3].drop 2).take (Tryz.prog.cellsOf 3))=some y10:=h10
 rw[zW]at h10
 replace h10:DataW.trod enc Tryz.prog W 0 (fun _=>true) true m10 3 [c2]=some y10:=h10
 obtain ⟨m11,y11,h11,l11⟩:=gk 3 _ rfl
 replace h11:DataW.trod enc Tryz.prog W 0 (fun _=>true) true m11 22 (([c0,c1,c2,c3].drop 3).take (Tryz.prog.cellsOf 22))=some y11:=h11
 rw[QO]at h11
 replace h11:DataW.trod enc Tryz.prog W 0 (fun _=>true) true m11 22 [c3]=some y11:=h11
 obtain ⟨_,ga⟩:=fld Tryz.underlying27 h4 l4
 obtain ⟨m12,y12,h12,l12⟩:=ga 0 _ rfl
 replace h12:DataW.trod enc Tryz.prog W 0 (fun _=>true) true m12 3 (([c4,c5].drop 0).take (Tryz.prog.cellsOf 3))=some y12:=h12
 rw[zW]at h12
 replace h12:DataW.trod enc Tryz.prog W 0 (fun _=>true) true m12 3 [c4]=some y12:=h12
 obtain ⟨m13,y13,h13,l13⟩:=ga 1 _ rfl
 replace h13:DataW.trod enc Tryz.prog W 0 (fun _=>true) true m13 25 (([c4,c5].drop 1).take (Tryz.prog.cellsOf 25))=some y13:=h13
 rw[Y8]at h13
 replace h13:DataW.trod enc Tryz.prog W 0 (fun _=>true) true m13 25 [c5]=some y13:=h13
 obtain ⟨z8,rfl⟩:=QY h8
 obtain ⟨z9,rfl⟩:=QY h9
 obtain ⟨z10,rfl⟩:=QY h10
 obtain ⟨v11,i11,e11,r11⟩:=YD h11 l11
 obtain ⟨z12,rfl⟩:=QY h12
 obtain ⟨v13,i13,e13,r13⟩:=Z3 h13 l13
 obtain ⟨z5,rfl⟩:=QY h5
 simp only[List.cons.injEq,and_true]at e11 e13
 subst e11 e13
 exact ⟨⟨z8,z9,z10,i11,z12,i13,z5⟩,_,_,rfl,r11,r13⟩
end
end Go.Proofs.YtjpakklplhabdaaGreat
