/- Part of the proof that the laws answer true for every input. -/
import Derived.Test.YtjpakklplhabdaaGreatPGaA06
import Derived.RangeFuncNested
import Derived.RangeFuncBound
import Derived.RangeFuncCalls
import Derived.RangeFuncLeaves
import Derived.Shelf.Abstract
import Derived.Shelf.RegionOpen
import Derived.OwnWalkIn
import Derived.TacticsInMore
import Derived.LoopNIn
import Derived.LoopIn
import Derived.RangeFuncFrom
set_option linter.unusedSimpArgs false
set_option linter.unnecessarySimpa false
set_option linter.unusedVariables false
set_option maxRecDepth 100000
set_option maxHeartbeats 40000000
namespace Go.Proofs.YtjpakklplhabdaaGreat
structure ProbD where
 n:Int
 ins:Int
 outs:Int
 cs:List CaseD
 an:Int
 st:Moves
 rounds:Int
def checkPr (p:ProbD):Int:=
 if checkT p.n p.ins p.outs p.cs=0 then
  (if checkA p.an p.st=0 then (if p.n=p.an then (if p.rounds<0∨6<p.rounds then 2 else 0) else 22) else checkA p.an p.st)
 else checkT p.n p.ins p.outs p.cs
def wordsD (st:Moves):Nat→Nat→List (List (List Int))
 | 0,_=>[[]]
 | k+1,s=>(nthM st s).flatMap fun m=>(wordsD st k (nth m 7).toNat).map fun w=>m.take 7::w
def cntW (st:Moves):Nat→Nat→Nat
 | 0,_=>1
 | k+1,s=>((nthM st s).map fun m=>cntW st k (nth m 7).toNat).sum
theorem zS (st:Moves):∀k s,(wordsD st k s).length=cntW st k s
 | 0,_=>rfl
 | k+1,s=>by
  unfold wordsD cntW
  rw[List.length_flatMap]
  congr 1
  apply List.map_congr_left
  intro m _
  rw[List.length_map,zS st k]
theorem qA (st:Moves):∀k s,∀w∈wordsD st k s,w.length=k
 | 0,s,w,h=>by rw[List.mem_singleton.1 h];rfl
 | k+1,s,w,h=>by
  unfold wordsD at h
  obtain ⟨m,hm,h⟩:=List.mem_flatMap.1 h
  obtain ⟨v,hv,rfl⟩:=List.mem_map.1 h
  rw[List.length_cons,qA st k _ v hv]
def idxV (t:List (List Int)) (v:List Int):Nat:=t.idxOf v
def addV (t:List (List Int)) (v:List Int):List (List Int):=if v∈t then t else t++[v]
theorem XL (t:List (List Int)) (v:List Int):idxV t v≤t.length:=List.idxOf_le_length
theorem qT {t:List (List Int)} {v:List Int}:idxV t v<t.length↔v∈t:=List.idxOf_lt_length_iff
theorem xl {t:List (List Int)} {v:List Int} (h:v∉t):idxV t v=t.length:=by
 have h1:=XL t v
 have h2:¬idxV t v<t.length:=fun h3=>h (qT.1 h3)
 omega
theorem zeh (t:List (List Int)) (v:List Int):idxV t v<(addV t v).length:=by
 unfold addV
 split
 ·rename_i h;exact qT.2 h
 ·rename_i h;rw[xl h];simp
theorem xb {t:List (List Int)} {v:List Int} (h:v∈t):nthL t (idxV t v)=v:=by
 rw[zM (qT.2 h)];exact List.getElem_idxOf (qT.2 h)
theorem zdC (t:List (List Int)) (v:List Int):nthL (addV t v) (idxV t v)=v:=by
 unfold addV
 split
 ·rename_i h;exact xb h
 ·rename_i h;rw[xl h];simp[nthL]
theorem ZL (t:List (List Int)) (v:List Int):t<+:addV t v:=by
 unfold addV
 split
 ·exact List.prefix_rfl
 ·exact List.prefix_append _ _
theorem zbx {t:List (List Int)} {v:List Int} (h:t.Nodup):(addV t v).Nodup:=by
 unfold addV
 split
 ·exact h
 ·rename_i hv
  rw[List.nodup_append]
  exact ⟨h,by simp,fun a ha b hb e=>hv (by rw[List.mem_singleton.1 hb]at e;exact e▸ha)⟩
theorem zaT (t:List (List Int)) (v:List Int):(addV t v).length≤t.length+1:=by
 unfold addV;split<;>simp
theorem xI {t:List (List Int)} {v:List Int} {k:Nat} (hk:k<t.length) (he:nthL t k=v) (h:∀j,j<k→nthL t j≠v):idxV t v=k:=by
 have hm:v∈t:=he▸yl hk
 have h1:=xb hm
 have h2:=qT.2 hm
 rcases Nat.lt_trichotomy (idxV t v) k with h3 | h3 | h3
 ·exact absurd h1 (h _ h3)
 ·exact h3
 ·exfalso
  have:¬(t.idxOf v>k):=by
   have:=List.not_of_lt_findIdx (p:=fun x=>x==v) (xs:=t) (i:=k)
   intro hgt
   have h5:=this (by simpa[List.idxOf] using hgt)
   rw[zM hk]at he
   simp[he]at h5
  exact this h3
theorem zb4 {t:List (List Int)} {v:List Int} (h:∀j,j<t.length→nthL t j≠v):v∉t:=fun hm=>h _ (qT.2 hm) (xb hm)
def firstV (q:Nat) (x:Int):List Int:=[q,0,x, -1, -1, -1, -1, -1]
def heardV (g:List Int) (n:Nat) (q:Nat) (prev:List Int) (r:Nat):Int:=if r<n∧(nth g (q+1)).toNat.testBit r=true then nth prev r else -1
def seenV (g:List Int) (n k q:Nat) (prev:List Int):List Int:=[q,k,0,heardV g n q prev 0,heardV g n q prev 1,heardV g n q prev 2,heardV g n q prev 3,heardV g n q prev 4]
def layV (mk:Nat→List Int) (t:List (List Int)):Nat→List (List Int)×List Int
 | 0=>(t,[])
 | q+1=>(addV (layV mk t q).1 (mk q),(layV mk t q).2++[(idxV (layV mk t q).1 (mk q):Int)])
theorem zT (mk:Nat→List Int) (t:List (List Int)):∀q,(layV mk t q).2.length=q
 | 0=>rfl
 | q+1=>by unfold layV;simp[zT mk t q]
theorem qf (mk:Nat→List Int) (t:List (List Int)):∀q,t<+:(layV mk t q).1
 | 0=>List.prefix_rfl
 | q+1=>by unfold layV;exact (qf mk t q).trans (ZL _ _)
theorem yC (mk:Nat→List Int) (t:List (List Int)):∀q,(layV mk t q).1.length≤t.length+q
 | 0=>by simp[layV]
 | q+1=>by
  unfold layV
  have h1:=yC mk t q
  have h2:=zaT (layV mk t q).1 (mk q)
  dsimp only
  omega
def playV (n:Nat) (inn:List Int) (word:List (List Int)) (t:List (List Int)):Nat→List (List Int)×List (List Int)
 | 0=>((layV (fun q=>firstV q (nth inn q)) t n).1,[(layV (fun q=>firstV q (nth inn q)) t n).2])
 | k+1=>((layV (fun q=>seenV (nthL word k) n (k+1) q (nthL (playV n inn word t k).2 k)) (playV n inn word t k).1 n).1,
   (playV n inn word t k).2++[(layV (fun q=>seenV (nthL word k) n (k+1) q (nthL (playV n inn word t k).2 k)) (playV n inn word t k).1 n).2])
theorem yR (n:Nat) (inn:List Int) (word:List (List Int)) (t:List (List Int)):∀k,(playV n inn word t k).2.length=k+1
 | 0=>rfl
 | k+1=>by unfold playV;simp[yR n inn word t k]
theorem yA (n:Nat) (inn:List Int) (word:List (List Int)) (t:List (List Int)):∀k,(playV n inn word t k).1.length≤t.length+n * (k+1)
 | 0=>by unfold playV;have:=yC (fun q=>firstV q (nth inn q)) t n;simpa using this
 | k+1=>by
  unfold playV
  have h1:=yA n inn word t k
  have h2:=yC (fun q=>seenV (nthL word k) n (k+1) q (nthL (playV n inn word t k).2 k)) (playV n inn word t k).1 n
  dsimp only
  have h3:n * (k+1+1)=n * (k+1)+n:=Nat.mul_succ ..
  omega
abbrev ExecD:=Int×List (List Int)×List (List Int)
def ExecD.case (x:ExecD):Int:=x.1
def ExecD.word (x:ExecD):List (List Int):=x.2.1
def ExecD.vs (x:ExecD):List (List Int):=x.2.2
def nthX (l:List ExecD) (k:Nat):ExecD:=l.getD k (0,[],[])
theorem YI {l:List ExecD} {k:Nat} (h:k<l.length):nthX l k=l[k]:=by simp[nthX,h]
theorem YA {l:List ExecD} {k:Nat} (h:k<l.length):nthX l k∈l:=by rw[YI h];exact List.getElem_mem h
theorem Q8 {l:List ExecD} {k:Nat} (h:k<l.length):l.take (k+1)=l.take k++[nthX l k]:=by rw[YI h];exact (List.take_append_getElem h).symm
def pairsW (c:Nat) (ws:List (List (List Int))):List (Nat×List (List Int)):=(List.range c).flatMap fun i=>ws.map fun w=>(i,w)
def stepE (n:Nat) (cs:List CaseD) (a:List (List Int)×List ExecD) (x:Nat×List (List Int)):List (List Int)×List ExecD:=
 ((playV n (nthC cs x.1).inn x.2 a.1 x.2.length).1,a.2++[((x.1:Int),x.2,(playV n (nthC cs x.1).inn x.2 a.1 x.2.length).2)])
def runE (n:Nat) (cs:List CaseD) (l:List (Nat×List (List Int))):List (List Int)×List ExecD:=l.foldl (stepE n cs) ([],[])
theorem Qz (n:Nat) (cs:List CaseD) (l:List (Nat×List (List Int))) (x:Nat×List (List Int)):runE n cs (l++[x])=stepE n cs (runE n cs l) x:=by
 unfold runE;rw[List.foldl_append];rfl
theorem xz (n:Nat) (cs:List CaseD):∀l:List (Nat×List (List Int)),(runE n cs l).2.length=l.length:=by
 intro l
 have:∀(l:List (Nat×List (List Int))) (a:List (List Int)×List ExecD),(l.foldl (stepE n cs) a).2.length=a.2.length+l.length:=by
  intro l
  induction l with
  | nil=>intro a;simp
  | cons x r ih=>intro a;rw[List.foldl_cons,ih];simp[stepE];omega
 simpa[runE] using this l ([],[])
theorem xB (n K:Nat) (cs:List CaseD) (l:List (Nat×List (List Int))) (h:∀x∈l,x.2.length=K):(runE n cs l).1.length≤l.length * (n * (K+1)):=by
 have:∀(l:List (Nat×List (List Int))) (a:List (List Int)×List ExecD),(∀x∈l,x.2.length=K)→(l.foldl (stepE n cs) a).1.length≤a.1.length+l.length * (n * (K+1)):=by
  intro l
  induction l with
  | nil=>intro a _;simp
  | cons x r ih=>
   intro a hx
   rw[List.foldl_cons]
   have h1:=ih (stepE n cs a x) (fun y hy=>hx y (by simp[hy]))
   have h2:=yA n (nthC cs x.1).inn x.2 a.1 x.2.length
   rw[hx x (by simp)]at h2
   have h3:(stepE n cs a x).1.length=(playV n (nthC cs x.1).inn x.2 a.1 K).1.length:=by unfold stepE;rw[hx x (by simp)]
   rw[List.length_cons,Nat.add_mul,Nat.one_mul]
   omega
 simpa[runE] using this l ([],[]) h
theorem yz (c:Nat) (ws:List (List (List Int))):(pairsW c ws).length=c * ws.length:=by
 unfold pairsW
 rw[List.length_flatMap]
 simp only[List.length_map]
 rw[List.map_const',List.sum_replicate_nat,List.length_range]
def ProbD.pairs (p:ProbD):List (Nat×List (List Int)):=pairsW p.cs.length (wordsD p.st p.rounds.toNat 0)
def ProbD.sys (p:ProbD):List (List Int)×List ExecD:=runE p.n.toNat p.cs p.pairs
def ProbD.num (p:ProbD):Nat:=p.cs.length * cntW p.st p.rounds.toNat 0
theorem ProbD.pairs_len (p:ProbD):p.pairs.length=p.num:=by unfold ProbD.pairs ProbD.num;rw[yz,zS]
theorem ProbD.pairs_word (p:ProbD):∀x∈p.pairs,x.2.length=p.rounds.toNat:=by
 intro x hx
 unfold ProbD.pairs pairsW at hx
 obtain ⟨i,hi,hx⟩:=List.mem_flatMap.1 hx
 obtain ⟨w,hw,rfl⟩:=List.mem_map.1 hx
 exact qA _ _ _ _ hw
theorem ProbD.pairs_case (p:ProbD):∀x∈p.pairs,x.1<p.cs.length:=by
 intro x hx
 unfold ProbD.pairs pairsW at hx
 obtain ⟨i,hi,hx⟩:=List.mem_flatMap.1 hx
 obtain ⟨w,hw,rfl⟩:=List.mem_map.1 hx
 exact List.mem_range.1 hi
def buildE (p:ProbD):Int:=if checkPr p=0 then (if 4096<p.num then 17 else 0) else checkPr p
def SmallP (p:ProbD):Prop:=checkPr p=0→p.num≤4096→p.num≤60∧p.n≤3
structure SysF where
 p:ProbD
 tn:Int
 tab:List (List Int)
 ex:List ExecD
def verE (s:SysF):Int:=if buildE s.p=0 then (if s.tn=s.p.n∧s.tab=s.p.sys.1∧s.ex=s.p.sys.2 then 0 else 3) else buildE s.p
end Go.Proofs.YtjpakklplhabdaaGreat
namespace Go.Proofs.YtjpakklplhabdaaGreat
open Go.RowKit Go.Shelf
theorem xy {F:Fence} {nf:Nat} {P:Program} {w:World} {ops:Array Oper} {rest:List Oper} {o:Oper} {a:Act} {Q:Exit→Act→World→Prop} (hgd:o.guard=none) (s x:Operand) (t:TypeId)
  (ho:o.op=.call {callee:=.builtin .append,args:=#[s,x],argTypes:=#[t,t]}) (e:TypeId) (z:Value) (bytes:Nat) (ht:P.underlying t=some (.slice e))
  (hinfo:(P.info? e).map (fun i=>(i.zero,i.size,i.bytes))=some (some z,1,bytes)) (hz1:z.cells.size=1) (base:Nat) (v:Value) (n:Nat) (xs:List Value) (hs:a.eval s=v) (hown:w.ownsRow base e 1 v n xs)
  (u:Value) (hx:a.eval x=.slice (some ⟨w.heap.size,0,none⟩) 1 1) (h1:u.oneCell'=true) (hbytes:(n+1) * bytes≤140737488355328) (hn:n<9223372036854775807) (hbase:base≤w.heap.size)
  (h:∀g' c' w',w'.ownsRow base e 1 (.slice (some ⟨g',0,none⟩) (n+1) c') (n+1) (xs++[u])→(w.alloc (.cells #[u] e)).grownBy w' v.ownBlock→(v.ownBlock=some g'∨w.heap.size≤g')→wpListIn F nf P ops Q rest (a.put o.dst (.slice (some ⟨g',0,none⟩) (n+1) c')) w'):
  wpListIn F nf P ops Q (o::rest) a (w.alloc (.cells #[u] e)):=by
 obtain ⟨i,hi,hz,hz2,hz3⟩:=info_parts hinfo
 refine wpListIn_plain hgd fun K hK'=>?_
 obtain ⟨v',w',hrun,r1,r2,r3⟩:=yi (P:=P) (w.alloc (.cells #[u] e)) base t o.type e i z 1 bytes ht hi hz hz2 hz3 hz1 (by decide) v n xs (hown.alloc _) ⟨w.heap.size,0,none⟩ 1 1 [u] rfl
  (fun j q hj=>by
   cases j with
   | zero=>simp at hj;subst hj;rw[Addr.add_lit,World.cell?_alloc_new];rfl
   | succ j=>simp at hj)
  (fun q hq=>by rw[List.mem_singleton.1 hq];exact h1) (by unfold maxLen;omega) hbytes (by simp;omega)
 obtain ⟨g',c',rfl⟩:=Zg r1 (by omega)
 unfold Oper.wpIn
 refine ⟨?_,?_⟩
 ·simp[Oper.about,ho,resolve,Target.leads,Sem.run_pure]
 ·rw[Oper.semAt_plain F _ _ (by rw[ho];intro c hc';cases hc')]
  simp[execOp,ho,resolve,invoke,builtin,hs,hx,hrun,Result.andThen]
  exact hK' _ _ (h g' c' w' r1 r2 ((r3 g' rfl).imp id fun h=>by simp at h;omega))
end Go.Proofs.YtjpakklplhabdaaGreat
namespace Go.Proofs.YtjpakklplhabdaaGreat
open Go.RowKit
def zzpart (xs:List Value) (j z:Nat):List Value:=(xs.drop (j * z)).take z
theorem yf {xs:List Value} {j z i:Nat} (h:i<z):(zzpart xs j z)[i]? =xs[j * z+i]?:=by
 unfold zzpart
 rw[List.getElem?_take_of_lt h,List.getElem?_drop]
theorem Xt {xs cs:List Value} {j n z:Nat} (hl:xs.length=n * z) (hj:j<n):zzpart (xs++cs) j z=zzpart xs j z:=by
 apply List.ext_getElem?
 intro i
 by_cases h:i<z
 ·rw[yf h,yf h,List.getElem?_append_left]
  have:(j+1) * z≤n * z:=Nat.mul_le_mul_right _ hj
  rw[Nat.add_mul,Nat.one_mul]at this
  omega
 ·unfold zzpart
  rw[List.getElem?_take,List.getElem?_take,if_neg h,if_neg h]
theorem Qn {xs cs:List Value} {n z:Nat} (hl:xs.length=n * z) (hc:cs.length=z):zzpart (xs++cs) n z=cs:=by
 unfold zzpart
 rw[←hl,List.drop_left,←hc,List.take_length]
def OwnK {α:Type} (K:Kd α) (e:TypeId) (base:Nat) (S:Nat→Prop) (w:World) (v:Value) (l:List α):Prop:=
 ∃xs,w.ownsRow base e K.size v l.length xs∧∀j (h:j<l.length),K.rd (fun b=>S b∧v.ownBlock≠some b) w (zzpart xs j K.size) l[j]
section
variable {α:Type} {K:Kd α} {e:TypeId} {base:Nat} {S:Nat→Prop} {w:World} {v:Value} {l:List α}
theorem OwnK.nil (K:Kd α) (e:TypeId) (base:Nat) (S:Nat→Prop) (w:World):OwnK K e base S w (.slice none 0 0) ([]:List α):=
 ⟨[],World.ownsRow_nil _ _ _ _,fun j hj=>by simp at hj⟩
theorem OwnK.agree {T:Nat→Prop} {w':World} (h:OwnK K e base S w v l) (hw:Agree T w w') (h1:∀k,v.ownBlock=some k→T k) (h2:∀b,S b→T b):OwnK K e base S w' v l:=by
 obtain ⟨xs,ho,hr⟩:=h
 exact ⟨xs,zO ho hw h1,fun j hj=>K.agree (hr j hj) (hw.mono fun b hb=>h2 b hb.1)⟩
theorem OwnK.ext {w':World} (h:OwnK K e base S w v l) (hw:Below w.heap.size w w'):OwnK K e base S w' v l:=h.agree (T:=fun _=>True) (.of_ext hw) (fun _ _=>trivial) fun _ _=>trivial
theorem OwnK.mono {S':Nat→Prop} (h:OwnK K e base S w v l) (hS:∀b,S b→S' b):OwnK K e base S' w v l:=by
 obtain ⟨xs,ho,hr⟩:=h
 exact ⟨xs,ho,fun j hj=>K.mono (hr j hj) fun b hb=>⟨hS b hb.1,hb.2⟩⟩
theorem OwnK.lt (h:OwnK K e base S w v l):∀k,v.ownBlock=some k→base≤k∧k<w.heap.size:=by
 obtain ⟨xs,ho,hr⟩:=h;exact ho.lt
theorem OwnK.form (h:OwnK K e base S w v l):∃a cap,v=.slice a l.length cap∧(0<l.length→∃g,a=some ⟨g,0,none⟩)∧cap≤maxLen:=by
 obtain ⟨xs,ho,hr⟩:=h
 rcases ho.2 with ⟨rfl,hn0⟩ | ⟨g,cap,cur,rfl,hb,hg,hnc,hcm,_⟩
 ·exact ⟨none,0,by rw[hn0],fun h=>by omega,by simp[maxLen]⟩
 ·exact ⟨_,cap,rfl,fun _=>⟨g,rfl⟩,hcm⟩
theorem OwnK.sl (h:OwnK K e base S w v l) (hn:l.length≤140737488355328):Sl K (fun b=>S b∨base≤b) w v l:=by
 obtain ⟨xs,ho,hr⟩:=h
 rcases ho.2 with ⟨rfl,hn0⟩ | ⟨g,cap,cur,rfl,hb,hg,hnc,hcm,_⟩
 ·have:l=[]:=by simpa using hn0
  subst this
  exact Sl.nil _ _ _
 ·refine ⟨_,cap,rfl,.inr ⟨g,0,rfl,(Array.getElem?_eq_some_iff.1 hg).1,.inr hb⟩,hnc,⟨hcm,hn⟩,fun j hj=>⟨zzpart xs j K.size,fun i hi=>?_,K.mono (hr j hj) fun b hb=>.inl hb.1⟩⟩
  have hlx:xs.length=l.length * K.size:=ho.1
  have hlt:j * K.size+i<xs.length:=by
   have:(j+1) * K.size≤l.length * K.size:=Nat.mul_le_mul_right _ hj
   rw[Nat.add_mul,Nat.one_mul]at this
   omega
  rw[yf hi,zZ,Nat.zero_add,ho.cellAt (j * K.size+i) (by omega)]
theorem OwnK.push {w':World} {v':Value} {xs cs:List Value} {y:α} (hr:∀j (h:j<l.length),K.rd (fun b=>S b∧v.ownBlock≠some b) w (zzpart xs j K.size) l[j]) (hxl:xs.length=l.length * K.size)
  (ho:w'.ownsRow base e K.size v' (l.length+1) (xs++cs)) (hg:∀S:Nat→Prop,(∀k,v.ownBlock=some k→¬S k)→Agree S w w') (hv:∀k,v'.ownBlock=some k→v.ownBlock=some k∨w.heap.size≤k)
  (hy:K.rd (fun b=>S b∧v.ownBlock≠some b) w cs y):OwnK K e base S w' v' (l++[y]):=by
 have move:∀{cs:List Value} {y:α},K.rd (fun b=>S b∧v.ownBlock≠some b) w cs y→K.rd (fun b=>S b∧v'.ownBlock≠some b) w' cs y:=by
  intro cs y hy
  refine K.mono (K.agree (K.block hy) (hg _ fun k hk hb=>hb.1.2 hk)) fun b hb=>⟨hb.1.1,fun e1=>?_⟩
  rcases hv b e1 with h2 | h2
  ·exact hb.1.2 h2
  ·have:=hb.2;omega
 refine ⟨xs++cs,by simpa using ho,fun j hj=>?_⟩
 simp only[List.length_append,List.length_cons,List.length_nil]at hj
 by_cases hj':j<l.length
 ·rw[Xt hxl hj',List.getElem_append_left hj']
  exact move (hr j hj')
 ·obtain rfl:j=l.length:=by omega
  rw[Qn hxl (K.len hy)]
  simp only[List.getElem_concat_length]
  exact move hy
end
theorem qS {P:Program} {w:World} (t ty e:TypeId) (z:Value) (size bytes:Nat) (ht:P.underlying t=some (.slice e))
  (hinfo:(P.info? e).map (fun i=>(i.zero,i.size,i.bytes))=some (some z,size,bytes)) (hz1:z.cells.size=size) (hsz:0<size) (base:Nat) (v:Value) (n:Nat) (xs:List Value) (hown:w.ownsRow base e size v n xs)
  (S:Nat→Prop) (ad:Option Addr) (m c:Nat) (news:List Value) (had:Ad S w ad m c) (hl:news.length=m * size) (hcell:∀j,j<m * size→w.cell? (adr ad j)=some (news.getD j undef)) (h1:∀u∈news,u.oneCell'=true)
  (hbytes:(n+m) * bytes≤140737488355328) (hn:n+m≤9223372036854775807) (hbase:base≤w.heap.size):
  ∃v' w',(Builtin.append_ #[t,t] ty #[v,.slice ad m c]).run P w=.ok v' w'∧w'.ownsRow base e size v' (n+m) (xs++news)∧Below base w w'∧(∀S:Nat→Prop,(∀k,v.ownBlock=some k→¬S k)→Agree S w w')∧(∀k,v'.ownBlock=some k→v.ownBlock=some k∨w.heap.size≤k)∧w.grownBy w' v.ownBlock:=by
 obtain ⟨i,hi,hz,hz2,hz3⟩:=info_parts hinfo
 have hlt:=hown.lt
 have fin:∀x:Addr,ad=some x→(∀j u,news[j]? =some u→w.cell? (x.add j)=some u)→∃v' w',(Builtin.append_ #[t,t] ty #[v,.slice ad m c]).run P w=.ok v' w'∧w'.ownsRow base e size v' (n+m) (xs++news)∧Below base w w'∧(∀S:Nat→Prop,(∀k,v.ownBlock=some k→¬S k)→Agree S w w')∧(∀k,v'.ownBlock=some k→v.ownBlock=some k∨w.heap.size≤k)∧w.grownBy w' v.ownBlock:=by
  intro x he hx2
  obtain ⟨v',w',hr,h2,h3,h4⟩:=yi (P:=P) w base t ty e i z size bytes ht hi hz hz2 hz3 hz1 hsz v n xs hown x m c news hl hx2 h1 (by unfold maxLen;omega) hbytes hbase
  subst he
  exact ⟨v',w',hr,h2,(Below.refl _ _).grown h3 hbase (fun k hk=>(hlt k hk).1),fun S hS=>.of_grown h3 (fun k hk e1=>hS k e1 hk),h4,h3⟩
 rcases had with ⟨rfl,rfl⟩ | ⟨b,off,rfl,hb,hS⟩
 ·have hn0:news=[]:=List.eq_nil_of_length_eq_zero (by rw[hl,Nat.zero_mul])
  cases ad with
  | some x=>exact fin x rfl (fun j u hj=>by rw[hn0]at hj;simp at hj)
  | none=>
   have hrun:=run_append_owned_none (P:=P) w base t ty e i size ht hi v n xs hown
   exact ⟨v,w,hrun,by rw[hn0];simpa using hown,.refl _ _,fun S _=>.refl _ _,fun k hk=>.inl hk,⟨rfl,rfl,rfl,Nat.le_refl _,fun _ _ _=>rfl⟩⟩
 ·refine fin _ rfl (fun j u hj=>?_)
  have hjm:j<m * size:=by rw[←hl];exact (List.getElem?_eq_some_iff.1 hj).1
  have:=hcell j hjm
  rw[zZ]at this
  rw[Addr.add_lit,this,List.getD_eq_getElem?_getD,hj]
  rfl
theorem Xw {α:Type} {K:Kd α} {P:Program} {w:World} (t ty e:TypeId) (z:Value) (bytes:Nat) (ht:P.underlying t=some (.slice e))
  (hinfo:(P.info? e).map (fun i=>(i.zero,i.size,i.bytes))=some (some z,K.size,bytes)) (hz1:z.cells.size=K.size) (hsz:0<K.size) {base:Nat} {S:Nat→Prop} {v:Value} {l:List α} (hown:OwnK K e base S w v l)
  {cs:List Value} {y:α} (hy:K.rd (fun b=>S b∧v.ownBlock≠some b) w cs y) (hbytes:(l.length+1) * bytes≤140737488355328) (hn:l.length<9223372036854775807) (hbase:base≤w.heap.size):
  ∃g' c' w',(Builtin.append_ #[t,t] ty #[v,.slice (some ⟨w.heap.size,0,none⟩) 1 1]).run P (w.alloc (.cells cs.toArray e))=.ok (.slice (some ⟨g',0,none⟩) (l.length+1) c') w'∧
   OwnK K e base S w' (.slice (some ⟨g',0,none⟩) (l.length+1) c') (l++[y])∧Below base w w'∧(∀S:Nat→Prop,(∀k,v.ownBlock=some k→¬S k)→Agree S w w')∧(v.ownBlock=some g'∨w.heap.size≤g')∧(w.alloc (.cells cs.toArray e)).grownBy w' v.ownBlock:=by
 have ha:w.grownBy (w.alloc (.cells cs.toArray e)) none:=World.grownBy_alloc _ _ _
 obtain ⟨xs,ho,hr⟩:=hown
 have hcl:=K.len hy
 obtain ⟨v',w',hrun,h2,h3,h4,h5,h6⟩:=qS (P:=P) (w:=w.alloc (.cells cs.toArray e)) t ty e z K.size bytes ht hinfo hz1 hsz base v l.length xs (ho.alloc _) (fun _=>True) (some ⟨w.heap.size,0,none⟩) 1 1 cs
  (.inr ⟨_,_,rfl,by simp,trivial⟩) (by omega) (fun j hj=>by rw[zZ,Nat.zero_add,World.cell?_alloc_new];simp[List.getD_eq_getElem?_getD,show j<cs.length by omega]) (K.one hy) hbytes (by omega) (by simp;omega)
 obtain ⟨g',c',rfl⟩:=Zg h2 (by omega)
 have hxl:xs.length=l.length * K.size:=ho.1
 have hv:∀k,(Value.slice (some ⟨g',0,none⟩) (l.length+1) c').ownBlock=some k→v.ownBlock=some k∨w.heap.size≤k:=fun k hk=>(h5 k hk).imp id fun h=>by simp at h;omega
 have hag:∀S:Nat→Prop,(∀k,v.ownBlock=some k→¬S k)→Agree S w w':=fun S hS=>(Agree.of_grown ha (by simp)).trans (h4 S hS)
 exact ⟨g',c',w',hrun,OwnK.push hr hxl h2 hag hv hy,((Below.refl _ _).alloc hbase _).trans h3,hag,hv g' rfl,h6⟩
theorem yF {α:Type} {K:Kd α} {P:Program} {w:World} {ops:Array Oper} {rest:List Oper} {o:Oper} {a:Act} {Q:Exit→Act→World→Prop} (hgd:o.guard=none) (s x:Operand) (t:TypeId)
  (ho:o.op=.call {callee:=.builtin .append,args:=#[s,x],argTypes:=#[t,t]}) (e:TypeId) (z:Value) (bytes:Nat) (ht:P.underlying t=some (.slice e))
  (hinfo:(P.info? e).map (fun i=>(i.zero,i.size,i.bytes))=some (some z,K.size,bytes)) (hz1:z.cells.size=K.size) (hsz:0<K.size) {base:Nat} {S:Nat→Prop} {v:Value} {l:List α} (hs:a.eval s=v) (hown:OwnK K e base S w v l)
  {cs:List Value} {y:α} (hx:a.eval x=.slice (some ⟨w.heap.size,0,none⟩) 1 1) (hy:K.rd (fun b=>S b∧v.ownBlock≠some b) w cs y) (hbytes:(l.length+1) * bytes≤140737488355328) (hn:l.length<9223372036854775807) (hbase:base≤w.heap.size)
  (h:∀g' c' w',OwnK K e base S w' (.slice (some ⟨g',0,none⟩) (l.length+1) c') (l++[y])→Below base w w'→(∀S:Nat→Prop,(∀k,v.ownBlock=some k→¬S k)→Agree S w w')→(v.ownBlock=some g'∨w.heap.size≤g')→wpList P ops Q rest (a.put o.dst (.slice (some ⟨g',0,none⟩) (l.length+1) c')) w'):
  wpList P ops Q (o::rest) a (w.alloc (.cells cs.toArray e)):=by
 refine wpList_plain hgd fun K' hK'=>?_
 obtain ⟨g',c',w',hrun,r1,r2,r3,r4,_⟩:=Xw (P:=P) t o.type e z bytes ht hinfo hz1 hsz hown hy hbytes hn hbase
 unfold Oper.wp
 simp[execOp,ho,resolve,invoke,builtin,hs,hx,hrun,Result.andThen]
 exact hK' _ _ (h g' c' w' r1 r2 r3 r4)
theorem ya {P:Program} {w:World} {ops:Array Oper} {rest:List Oper} {o:Oper} {a:Act} {Q:Exit→Act→World→Prop} (hgd:o.guard=none) (s x:Operand) (t:TypeId)
  (ho:o.op=.call {callee:=.builtin .append,args:=#[s,x],argTypes:=#[t,t]}) (e:TypeId) (z:Value) (size bytes:Nat) (ht:P.underlying t=some (.slice e))
  (hinfo:(P.info? e).map (fun i=>(i.zero,i.size,i.bytes))=some (some z,size,bytes)) (hz1:z.cells.size=size) (hsz:0<size) (base:Nat) (v:Value) (n:Nat) (xs:List Value) (hs:a.eval s=v) (hown:w.ownsRow base e size v n xs)
  (S:Nat→Prop) (ad:Option Addr) (m c:Nat) (news:List Value) (hx:a.eval x=.slice ad m c) (had:Ad S w ad m c) (hl:news.length=m * size) (hcell:∀j,j<m * size→w.cell? (adr ad j)=some (news.getD j undef)) (h1:∀u∈news,u.oneCell'=true)
  (hbytes:(n+m) * bytes≤140737488355328) (hn:n+m≤9223372036854775807) (hbase:base≤w.heap.size)
  (h:∀v' w',w'.ownsRow base e size v' (n+m) (xs++news)→Below base w w'→(∀S:Nat→Prop,(∀k,v.ownBlock=some k→¬S k)→Agree S w w')→(∀k,v'.ownBlock=some k→v.ownBlock=some k∨w.heap.size≤k)→wpList P ops Q rest (a.put o.dst v') w'):
  wpList P ops Q (o::rest) a w:=by
 refine wpList_plain hgd fun K hK=>?_
 obtain ⟨v',w',hrun,r1,r2,r3,r4,_⟩:=qS (P:=P) t o.type e z size bytes ht hinfo hz1 hsz base v n xs hown S ad m c news had hl hcell h1 hbytes hn hbase
 unfold Oper.wp
 simp[execOp,ho,resolve,invoke,builtin,hs,hx,hrun,Result.andThen]
 exact hK _ _ (h v' w' r1 r2 r3 r4)
end Go.Proofs.YtjpakklplhabdaaGreat
namespace Go.Proofs.YtjpakklplhabdaaGreat
open Go.RowKit Go.Shelf
theorem Row.putObj {w:World} {g:Nat} {e:TypeId} {xs:List Value} (h:Row w g e xs) {r:Nat} {o:Obj} (o':Obj) (hr:w.heap[r]? =some o) (ho:o.isCells=false):Row (w.putObj r o') g e xs:=by
 refine h.grown (grownBy_putObj' w r o') fun e=>?_
 cases e
 unfold Row at h
 rw[hr]at h
 cases h
 cases ho
theorem Xf {w:World} {r:Nat} (o o':Obj) (h:r<w.heap.size):(w.alloc o).putObj r o'=(w.putObj r o').alloc o:=by
 unfold World.putObj World.alloc
 simp only[World.mk.injEq,and_true]
 apply Array.ext_getElem?
 intro i
 rw[Array.getElem?_setIfInBounds,Array.getElem?_push,Array.getElem?_push,Array.getElem?_setIfInBounds,Array.size_push,Array.size_setIfInBounds]
 by_cases e:r=i
 ·subst e
  rw[if_pos rfl,if_pos (by omega),if_neg (by omega),if_pos rfl,if_pos h]
 ·rw[if_neg e]
  by_cases e2:i=w.heap.size
  ·rw[if_pos e2,if_pos e2]
  ·rw[if_neg e2,if_neg e2,if_neg e]
theorem xT {F:Fence} {n:Nat} {P:Program} {α:Type} {g:Operand} {ps:Array Tmp} {assign body:Code} {Q:Exit→Act→World→Prop} {a:Act} {w:World}
  (hro:F.round=none) (h1:1≤n) {gf:Nat} {lb:Array Value} (hg:a.eval g=.func (.func gf) #[] lb) (hFg:F.fn gf) (eg:∀args w,(callFunc gf args).run P w=.ok (.enter gf args) w)
  {encs:α→Array Value} {Kp:World→World→Prop} {S Sp:List α→Prop} {N:Nat} (hseq:SeqStopsK F (n - 1) P gf lb encs Kp S Sp N w)
  (hKt:∀{A B C:World},Kp A B→Kp B C→Kp A C) (hKb:∀(W:World) (l:Nat) (o o':Obj),w.heap.size≤l→W.heap[l]? =some o→o.isCells=false→o.isWalk=false→Kp W (W.putObj l o')) (hKa:∀(W:World) (o:Obj),w.heap.size≤W.heap.size→Kp W (W.alloc o)) (hps:∀x,(encs x).size=ps.size)
  (I:List α→World→Prop) (Ix:Code→List α→World→Prop) (hI:OwnFrom w.heap.size I) (hIx:∀c,OwnFrom w.heap.size (Ix c)) (h0:I [] w) (ob:α→Obj) (a₁:Nat→α→Act)
  (hassign:∀(l:Nat) (x:α) (W:World) (g:Nat) (K:Act→World→Prop),g=W.heap.size→K (a₁ g x) (W.alloc (ob x))→
   assign.wpIn (F.inRound l) (n - 1 - 1) P (Exit.then K (fun _ _ _=>False)) {tmps:=(ps.zip (encs x)).foldl (fun t (p,v)=>t.setIfInBounds p v) a.tmps,defers:=[]} W)
  (hbody:∀(l:Nat) (pre:List α) (x:α) (W:World),I pre W→w.heap.size≤W.heap.size→pre.length<N→body.wpIn (F.inRound l) (n - 1 - 1) P (ownPostK Kp I Ix (pre++[x]) (W.alloc (ob x))) (a₁ W.heap.size x) (W.alloc (ob x)))
  (hdone:∀(D:Nat) (xs:List α) (W:World),w.heap.size≤D→S xs→I xs W→W.heap[D]? =some (.deferred (some []))→Q .normal {a with defers:={target:=.collected D,args:=#[]}::a.defers} W)
  (hstop:∀(D:Nat) (c:Code) (pre:List α) (W:World),w.heap.size≤D→Sp pre→Ix c pre W→W.heap[D]? =some (.deferred (some []))→c.wpIn F n P Q {a with defers:={target:=.collected D,args:=#[]}::a.defers} W):
  (Code.rangeFunc g ps assign body).wpIn F n P Q a w:=by
 refine wpIn_rangeFunc fun fn hfn=>?_
 rw[hro]
 obtain ⟨D,hD⟩:∃D,D=w.heap.size:=⟨_,rfl⟩
 obtain ⟨mk,hmk⟩:∃mk:LoopState→Option Code→Loop,mk=fun st pe=>{state:=st,pending:=pe,fn:=fn,tmps:=a.tmps,params:=ps,assign:=assign,body:=body,defers:=D}:=⟨_,rfl⟩
 obtain ⟨U,hU⟩:∃U,U=(w.alloc (.deferred (some []))).alloc (.loop (mk .ready none)):=⟨_,rfl⟩
 have bU:Below w.heap.size w U:=by rw[hU];exact ((Below.refl _ w).alloc (Nat.le_refl _) _).alloc (by simp) _
 have lU:U.heap[D+1]? =some (.loop (mk .ready none)):=by
  rw[hU,hD]
  have:=World.alloc_heap_new (w.alloc (.deferred (some []))) (.loop (mk .ready none))
  rwa [World.size_alloc]at this
 have dU:U.heap[D]? =some (.deferred (some [])):=by
  rw[hU,hD]
  exact (Below.heap_alloc _ _ _ (by simp)).trans (World.alloc_heap_new w _)
 have sU:D+1<U.heap.size:=(Array.getElem?_eq_some_iff.1 lU).1
 have iU:I [] U:=by rw[hU];exact hI.alloc _ (hI.alloc _ h0)
 have hen:=run_enterLoop_outer (P:=P) (w:=w) fn a.tmps ps assign body
 rw[←hD,show ({state:=.ready,pending:=none,fn,tmps:=a.tmps,params:=ps,assign,body,defers:=D}:Loop)=mk .ready none from by rw[hmk],←hU]at hen
 refine ⟨D+1,_,U,{target:=.fn (.func gf) lb,args:=#[.func (.yield (D+1)) #[] #[]]},U,gf,#[.func (.yield (D+1)) #[] #[]]++lb,U,hen,?_,?_,?_,fun _=>h1,?_⟩
 ·simp only[resolve,hg]
  simp[go_sem]
 ·intro f hf
  simp[Target.leads]at hf
  exact hf▸hFg
 ·simp[invoke,go_sem,eg]
 have keepW:∀{A B:World} {row:Option Nat} {o:Obj} {k:Nat},A.heap[k]? =some o→o.isWalk=false→A.grownBy B row→(∀r,row=some r→U.heap.size≤r∧∃o:Obj,A.heap[r]? =some o∧o.isWalk=true)→B.heap[k]? =some o:=by
  intro A B row o k hk hw hg' hr
  refine (hg'.block k (Array.getElem?_eq_some_iff.1 hk).1 fun e=>?_).trans hk
  obtain ⟨_,o2,h2,h3⟩:=hr k e.symm
  rw[hk]at h2
  cases h2
  rw[hw]at h3
  cases h3
 have walkRow:∀{A:World} {row:Option Nat},(∀r,row=some r→U.heap.size≤r∧∃o:Obj,A.heap[r]? =some o∧o.isWalk=true)→(∀r,row=some r→w.heap.size≤r∧∃o:Obj,A.heap[r]? =some o∧o.isCells=false):=fun hr r e=>by
  obtain ⟨hB,o,ho,hw⟩:=hr r e
  exact ⟨by have:=bU.size;omega,o,ho,Obj.not_cells_of_walk hw⟩
 refine (hseq (D+1) (fun pre W=>I pre W∧W.heap[D+1]? =some (.loop (mk .ready none))∧W.heap[D]? =some (.deferred (some [])))
  (fun pre W=>∃c,Ix c pre W∧W.heap[D+1]? =some (.loop (mk .done (some c)))∧W.heap[D]? =some (.deferred (some []))) U bU
  (fun s A B row hs hg' hr=>⟨hI s A B row hs.1 hg' (walkRow hr),keepW hs.2.1 rfl hg' hr,keepW hs.2.2 rfl hg' hr⟩)
  (fun s A B row hs hg' hr=>by
   obtain ⟨c,hc,hl,hk⟩:=hs
   exact ⟨c,hIx c s A B row hc hg' (walkRow hr),keepW hl rfl hg' hr,keepW hk rfl hg' hr⟩) ?_ ⟨iU,lU,dU⟩).mono ?_
 ·rintro pre x W ⟨hi,hl,hd⟩ hlen
  have hlt:=(Array.getElem?_eq_some_iff.1 hl).1
  have hy:=run_yield (P:=P) (args:=encs x) hl (by rw[hmk];exact hps x)
  have hla:(W.alloc (ob x)).heap[D+1]? =some (.loop (mk .ready none)):=(heap_alloc_old W _ hlt).trans hl
  have hbeg:=run_beginRound (P:=P) hla (by rw[hmk])
  refine ⟨fn,(ps.zip (encs x)).foldl (fun t (p,v)=>t.setIfInBounds p v) a.tmps,assign,body,by rw[hmk]at hy;rw[hy],roundIn_of_wpIn hfn (hassign _ x W _ _ rfl ⟨_,hbeg,?_⟩)⟩
  obtain ⟨bz,hbz⟩:∃bz,bz=Obj.loop {mk .ready none with state:=.busy}:=⟨_,rfl⟩
  rw[←hbz,Xf _ _ hlt]
  have l2:(W.putObj (D+1) bz).heap[D+1]? =some bz:=World.putObj_heap_same hlt
  have d2:(W.putObj (D+1) bz).heap[D]? =some (.deferred (some [])):=(World.putObj_heap_other (by omega)).trans hd
  have k2:Kp W (W.putObj (D+1) bz):=hKb _ _ _ _ (by omega) hl rfl rfl
  have sz:(W.putObj (D+1) bz).heap.size=W.heap.size:=World.putObj_size ..
  have l2a:((W.putObj (D+1) bz).alloc (ob x)).heap[D+1]? =some bz:=(heap_alloc_old _ _ (by rw[sz];exact hlt)).trans l2
  have d2a:((W.putObj (D+1) bz).alloc (ob x)).heap[D]? =some (.deferred (some [])):=(heap_alloc_old _ _ (by rw[sz];omega)).trans d2
  have k2a:=hKt k2 (hKa (W.putObj (D+1) bz) (ob x) (by rw[sz];omega))
  have hb:=hbody (D+1) pre x _ (hI.putObj bz hi (by omega) hl rfl) (by rw[sz];omega) hlen
  rw[sz]at hb
  refine wpIn_mono hb ?_
  have fin:∀(jump:Option Code) (W3:World),KeepsOthers ((W.putObj (D+1) bz).alloc (ob x)) W3→
    (Instr.endRound (D+1) jump).run P W3=.ok (.bool jump.isNone) (W3.putObj (D+1) (.loop (mk (if jump.isNone then .ready else .done) jump)))∧W3.heap[D+1]? =some bz∧
    (W3.putObj (D+1) (.loop (mk (if jump.isNone then .ready else .done) jump))).heap[D+1]? =some (.loop (mk (if jump.isNone then .ready else .done) jump))∧
    (W3.putObj (D+1) (.loop (mk (if jump.isNone then .ready else .done) jump))).heap[D]? =some (.deferred (some [])):=fun jump W3 hk3=>by
   have l3:=hk3.same _ _ l2a (by rw[hbz];rfl)
   have d3:=hk3.same _ _ d2a rfl
   have l3':=l3
   rw[hbz]at l3'
   have hr:=run_endRound (P:=P) jump l3'
   rw[hmk]at hr ⊢
   exact ⟨hr,l3,World.putObj_heap_same (Array.getElem?_eq_some_iff.1 l3).1,(World.putObj_heap_other (by omega)).trans d3⟩
  have hbc:bz.isCells=false:=by rw[hbz];rfl
  have hbw:bz.isWalk=false:=by rw[hbz];rfl
  rintro e a3 W3 hp
  cases e with
  | normal=>
   obtain ⟨hk3,hkp,hi3⟩:=hp
   obtain ⟨hr,l3,l4,d4⟩:=fin none W3 hk3
   exact ⟨_,_,hr,.inl ⟨rfl,⟨hI.putObj _ hi3 (by omega) l3 hbc,l4,d4⟩,hKt (hKt k2a hkp) (hKb _ _ _ _ (by omega) l3 hbc hbw)⟩⟩
  | ret=>
   obtain ⟨hk3,hi3⟩:=hp
   obtain ⟨hr,l3,l4,d4⟩:=fin (some .ret) W3 hk3
   exact ⟨_,_,hr,.inr ⟨rfl,.ret,(hIx _).putObj _ hi3 (by omega) l3 hbc,l4,d4⟩⟩
  | exit id=>
   obtain ⟨hk3,hi3⟩:=hp
   obtain ⟨hr,l3,l4,d4⟩:=fin (some (.exit id)) W3 hk3
   exact ⟨_,_,hr,.inr ⟨rfl,.exit id,(hIx _).putObj _ hi3 (by omega) l3 hbc,l4,d4⟩⟩
  | goto t=>
   obtain ⟨hk3,hi3⟩:=hp
   obtain ⟨hr,l3,l4,d4⟩:=fin (some (.goto t)) W3 hk3
   exact ⟨_,_,hr,.inr ⟨rfl,.goto t,(hIx _).putObj _ hi3 (by omega) l3 hbc,l4,d4⟩⟩
  | panic ch=>exact hp.elim
  | outgrown=>exact hp.elim
 ·rintro e W2 ⟨⟨v,rfl⟩,(⟨xs,hS,hi,hl,hd⟩ | ⟨pre,hSp,c,hi,hl,hd⟩)⟩
  ·have hr:=run_endLoop (P:=P) hl (by rw[hmk];simp)
   refine ⟨none,_,by rw[hr,hmk],?_⟩
   have:=hdone D xs (W2.putObj (D+1) (.loop {mk .ready none with state:=.exhausted})) (by omega) hS (hI.putObj _ hi (by omega) hl rfl) ((World.putObj_heap_other (by omega)).trans hd)
   rw[hmk]at this
   exact this
  ·have hr:=run_endLoop (P:=P) hl (by rw[hmk];simp)
   refine ⟨some c,_,by rw[hr,hmk],?_⟩
   have:=hstop D c pre (W2.putObj (D+1) (.loop {mk .done (some c) with state:=.exhausted})) (by omega) hSp ((hIx c).putObj _ hi (by omega) hl rfl) ((World.putObj_heap_other (by omega)).trans hd)
   rw[hmk]at this
   exact this
theorem YO {T:Nat→Prop} {w:World} (W:World) (o:Obj) (_:w.heap.size≤W.heap.size):Agree T W (W.alloc o):=(Agree.refl T W).alloc o
end Go.Proofs.YtjpakklplhabdaaGreat
