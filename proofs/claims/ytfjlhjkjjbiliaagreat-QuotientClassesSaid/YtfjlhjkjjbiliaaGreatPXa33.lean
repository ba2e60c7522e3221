/- Part of the proof that the laws answer true for every input. -/
import Derived.Test.YtfjlhjkjjbiliaaGreatPXa32
import Derived.Test.YtfjlhjkjjbiliaaGreatPXa08
set_option linter.unusedSimpArgs false
set_option linter.unnecessarySimpa false
set_option linter.unusedVariables false
set_option maxRecDepth 100000
set_option maxHeartbeats 40000000
namespace Go.Proofs.YtfjlhjkjjbiliaaGreat
theorem QZ {l:List Int} {k i:Nat} {x:Int} (hk:k<l.length):nth (l.set k x) i=if i=k then x else nth l i:=by
 unfold nth
 rw[List.getD_eq_getElem?_getD,List.getD_eq_getElem?_getD,List.getElem?_set]
 by_cases e:k=i
 ·subst e;rw[if_pos rfl,if_pos hk,if_pos rfl];rfl
 ·rw[if_neg e,if_neg (fun h=>e h.symm)]
structure BfsIn (s:SysF) (f x j:Nat) (out:List Int) (Q:List Nat):Prop where
 len:out.length=s.ex.length
 val:∀e,e<s.ex.length→nth out e= -1∨(0≤dstV s f e∧nth out e=dstV s f e)
 qin:∀y∈Q,y<s.ex.length∧0≤nth out y
 srt:∃A B,Q=x::(A++B)∧(∀y∈A,dstV s f y=dstV s f x)∧(∀y∈B,dstV s f y=dstV s f x+1)
 done:∀e,e<s.ex.length→0≤nth out e→e∉Q→∀g,g<s.ex.length→adjB s e g=true→0≤nth out g
 low:∀e,e<s.ex.length→0≤dstV s f e→dstV s f e≤dstV s f x→0≤nth out e
 prt:∀g,g<j→adjB s x g=true→0≤nth out g
 home:0≤nth out f
theorem BfsIn.head {s:SysF} {f x j:Nat} {out:List Int} {Q:List Nat} (h:BfsIn s f x j out Q):x<s.ex.length∧nth out x=dstV s f x∧0≤dstV s f x:=by
 obtain ⟨A,B,e,_⟩:=h.srt
 obtain ⟨h1,h2⟩:=h.qin x (by rw[e];simp)
 rcases h.val x h1 with h3 | h3
 ·omega
 ·exact ⟨h1,h3.2,h3.1⟩
theorem BfsIn.skip {s:SysF} {f x j:Nat} {out:List Int} {Q:List Nat} (h:BfsIn s f x j out Q) (hs:adjB s x j=false∨0≤nth out j):BfsIn s f x (j+1) out Q:=
 ⟨h.len,h.val,h.qin,h.srt,h.done,h.low,fun g hg ha=>by
  by_cases e:g=j
  ·subst e
   rcases hs with h1 | h1
   ·rw[h1]at ha;cases ha
   ·exact h1
  ·exact h.prt g (by omega) ha,h.home⟩
theorem BfsIn.push {s:SysF} {f x j:Nat} {out:List Int} {Q:List Nat} (h:BfsIn s f x j out Q) (hf:f<s.ex.length) (hj:j<s.ex.length) (ha:adjB s x j=true) (h0:nth out j<0):
  BfsIn s f x (j+1) (out.set j (nth out x+1)) (Q++[j]):=by
 obtain ⟨hx,hxo,hx0⟩:=h.head
 have hlen:=h.len
 have hset:=fun i=>QZ (l:=out) (k:=j) (i:=i) (x:=nth out x+1) (by omega)
 have hd:=zgl (f:=f) hj hx (by rw[zd3];exact ha) hx0
 have hdj:dstV s f j=dstV s f x+1:=by
  by_cases e:dstV s f j≤dstV s f x
  ·have:=h.low j hj hd.1 e;omega
  ·omega
 have mono:∀i,0≤nth out i→0≤nth (out.set j (nth out x+1)) i:=fun i hi=>by
  rw[hset]
  split
  ·omega
  ·exact hi
 refine ⟨by rw[List.length_set];exact hlen,fun e he=>?_,fun y hy=>?_,?_,fun e he h1 h2 g hg h3=>?_,fun e he h1 h2=>mono e (h.low e he h1 h2),fun g hg h1=>?_,mono f h.home⟩
 ·rw[hset]
  by_cases ej:e=j
  ·subst ej;rw[if_pos rfl];right;omega
  ·rw[if_neg ej];exact h.val e he
 ·rcases List.mem_append.1 hy with hy | hy
  ·obtain ⟨a,b⟩:=h.qin y hy
   exact ⟨a,mono y b⟩
  ·rw[List.mem_singleton.1 hy]
   refine ⟨hj,?_⟩
   rw[hset,if_pos rfl];omega
 ·obtain ⟨A,B,e,h1,h2⟩:=h.srt
  refine ⟨A,B++[j],by rw[e];simp,h1,fun y hy=>?_⟩
  rcases List.mem_append.1 hy with hy | hy
  ·exact h2 y hy
  ·rw[List.mem_singleton.1 hy];exact hdj
 ·rw[hset]at h1
  have hej:e≠j:=fun e1=>h2 (by rw[e1];simp)
  rw[if_neg hej]at h1
  exact mono g (h.done e he h1 (fun hm=>h2 (List.mem_append_left _ hm)) g hg h3)
 ·by_cases e:g=j
  ·subst e;rw[hset,if_pos rfl];omega
  ·exact mono g (h.prt g (by omega) h1)
theorem minF (f:Nat→Bool):∀(n k:Nat),(minT f k n= -1∧∀i,k≤i→i<k+n→f i=false)∨∃t:Nat,minT f k n=t∧k≤t∧t<k+n∧f t=true∧∀i,k≤i→i<t→f i=false
 | 0,k=>.inl ⟨rfl,fun i h1 h2=>by omega⟩
 | n+1,k=>by
  rw[show minT f k (n+1)=if f k then (k:Int) else minT f (k+1) n from rfl]
  cases h:f k with
  | true=>rw[if_pos rfl];exact .inr ⟨k,rfl,Nat.le_refl _,by omega,h,fun i h1 h2=>by omega⟩
  | false=>
   rw[if_neg (by simp)]
   rcases minF f n (k+1) with ⟨h1,h2⟩ | ⟨t,h1,h2,h3,h4,h5⟩
   ·refine .inl ⟨h1,fun i h3 h4=>?_⟩
    by_cases e1:i=k
    ·subst e1;exact h
    ·exact h2 i (by omega) (by omega)
   ·refine .inr ⟨t,h1,by omega,by omega,h4,fun i h6 h7=>?_⟩
    by_cases e1:i=k
    ·subst e1;exact h
    ·exact h5 i (by omega) (by omega)
inductive Cn (s:SysF) (p:Nat):Nat→Nat→Prop
 | refl (i:Nat) (hi:i<s.ex.length):Cn s p i i
 | step (i j k q:Nat) (h:Cn s p i j) (hk:k<s.ex.length) (hq:q≤p) (hl:lkB s q j k=true):Cn s p i k
theorem Cn.lt {s:SysF} {p i j:Nat} (h:Cn s p i j):i<s.ex.length∧j<s.ex.length:=by
 induction h with
 | refl hi=>exact ⟨hi,hi⟩
 | step j k q _ hk _ _ ih=>exact ⟨ih.1,hk⟩
theorem Cn.mono {s:SysF} {p p' i j:Nat} (h:Cn s p i j) (hp:p≤p'):Cn s p' i j:=by
 induction h with
 | refl hi=>exact .refl _ hi
 | step j k q _ hk hq hl ih=>exact .step _ _ _ q ih hk (by omega) hl
theorem Cn.trans {s:SysF} {p i j k:Nat} (h:Cn s p i j) (h':Cn s p j k):Cn s p i k:=by
 induction h' with
 | refl _=>exact h
 | step a b q _ hk hq hl ih=>exact .step _ _ _ q ih hk hq hl
theorem Cn.symm {s:SysF} {p i j:Nat} (h:Cn s p i j):Cn s p j i:=by
 induction h with
 | refl hi=>exact .refl _ hi
 | step a b q h0 hk hq hl ih=>exact (Cn.step b b a q (.refl _ hk) h0.lt.2 hq (QU hl)).trans ih
theorem Cn.one {s:SysF} {p q i j:Nat} (hi:i<s.ex.length) (hj:j<s.ex.length) (hq:q≤p) (hl:lkB s q i j=true):Cn s p i j:=.step i i j q (.refl _ hi) hj hq hl
def prcT (T:List (List Int)) (v:Nat):Nat:=(nth (nthL T v) 0).toNat
theorem TabV.prc {N K:Nat} {T:List (List Int)} {v q k:Nat} (h:TabV N K T v q k):prcT T v=q:=by unfold prcT;rw[h.q0];exact Int.toNat_natCast q
def hrsB (T:List (List Int)) (u w:Nat):Bool:=decide (nth (nthL T u) (3+prcT T w)=(w:Int))
theorem xh {T:List (List Int)} {u w:Nat}:hrsB T u w=true↔nth (nthL T u) (3+prcT T w)=(w:Int):=by unfold hrsB;exact decide_eq_true_iff
theorem YH {N K:Nat} {T:List (List Int)} (hT:TabOK N K T) {u w:Nat} (hu:u<T.length) (hw:w<T.length) (h:hrsB T u w=true):rndT T u=rndT T w+1:=by
 obtain ⟨q,k,hV⟩:=hT.2 u hu
 obtain ⟨p,j,hW⟩:=hT.2 w hw
 have hN:=hT.1
 have hp:=hW.ql
 rw[xh,hW.prc]at h
 rcases hV.heard p (by omega) with h1 | ⟨x,h1,h2,h3,h4,h5,h6⟩
 ·omega
 ·have e:x=w:=by omega
  subst e
  rw[hV.rnd,hW.rnd]
  have:=hW.k0
  omega
theorem zdO {N K:Nat} {T:List (List Int)} (hT:TabOK N K T) {u w j:Nat} (hu:u<T.length) (hw:w<T.length) (hj:j<5) (h:nth (nthL T u) (3+j)=(w:Int)):prcT T w=j:=by
 obtain ⟨q,k,hV⟩:=hT.2 u hu
 rcases hV.heard j hj with h1 | ⟨x,h1,h2,h3,h4,h5,h6⟩
 ·omega
 ·have e:x=w:=by omega
  subst e
  unfold prcT;rw[h4];exact Int.toNat_natCast j
def indV (T:List (List Int)) (x:List Int):Int:=if x∈T then (idxV T x:Int) else -1
theorem QV {T:List (List Int)} {x:List Int}:(indV T x= -1∧x∉T)∨∃y:Nat,indV T x=y∧y<T.length∧nthL T y=x:=by
 unfold indV
 by_cases h:x∈T
 ·rw[if_pos h];exact .inr ⟨_,rfl,xg.2 h,qZ h⟩
 ·rw[if_neg h];exact .inl ⟨rfl,h⟩
theorem Qz {T:List (List Int)} (h:T.Nodup) {i j:Nat} (hi:i<T.length) (hj:j<T.length) (e:nthL T i=nthL T j):i=j:=by
 rw[zU hi,zU hj]at e
 have hp:=List.pairwise_iff_getElem.1 h
 rcases Nat.lt_trichotomy i j with h1 | h1 | h1
 ·exact absurd e (hp i j hi hj h1)
 ·exact h1
 ·exact absurd e.symm (hp j i hj hi h1)
theorem zen {T:List (List Int)} (h:T.Nodup) {u:Nat} (hu:u<T.length):indV T (nthL T u)=u:=by
 rcases QV (T:=T) (x:=nthL T u) with ⟨_,h1⟩ | ⟨y,h1,h2,h3⟩
 ·exact absurd (yj hu) h1
 ·rw[h1,Qz h h2 hu h3]
def repT (T:List (List Int)) (u w:Nat) (b:Int):Int:=indV T ((nthL T u).set (3+prcT T w) b)
theorem Xk {T:List (List Int)} (hn:T.Nodup) {u w:Nat} (hu:u<T.length) (h:hrsB T u w=true):repT T u w w=u:=by
 unfold repT
 rw[xh]at h
 have:(nthL T u).set (3+prcT T w) (w:Int)=nthL T u:=by
  apply List.ext_getElem?
  intro i
  rw[List.getElem?_set]
  by_cases e:3+prcT T w=i
  ·subst e
   rw[if_pos rfl]
   by_cases hl:3+prcT T w<(nthL T u).length
   ·rw[if_pos hl,List.getElem?_eq_getElem hl,←yh hl,h]
   ·rw[if_neg hl,List.getElem?_eq_none (by omega)]
  ·rw[if_neg e]
 rw[this];exact zen hn hu
theorem xO {T:List (List Int)} {u w:Nat} {b:Int}: -1≤repT T u w b∧repT T u w b<T.length:=by
 unfold repT
 rcases QV (T:=T) (x:=(nthL T u).set (3+prcT T w) b) with ⟨h,_⟩ | ⟨y,h,h1,_⟩<;>omega
theorem zbe {N K:Nat} {T:List (List Int)} (hT:TabOK N K T) {u v w y:Nat} {b:Int} (hu:u<T.length) (hv:v<T.length) (hp:prcT T v=prcT T w) (h:hrsB T u v=true) (hy:repT T u v w=(y:Int)):
  y<T.length∧hrsB T y w=true∧repT T y w b=repT T u v b:=by
 unfold repT at hy
 rcases QV (T:=T) (x:=(nthL T u).set (3+prcT T v) (w:Int)) with ⟨h1,_⟩ | ⟨z,h1,h2,h3⟩
 ·omega
 ·obtain rfl:z=y:=by omega
  obtain ⟨q,k,hV⟩:=hT.2 u hu
  obtain ⟨p,j,hW⟩:=hT.2 v hv
  have hN:=hT.1
  have hpl:=hW.ql
  have hlen:3+prcT T v<(nthL T u).length:=by rw[hV.len,hW.prc];omega
  refine ⟨h2,?_,?_⟩
  ·rw[xh,h3,←hp]
   have:=QZ (l:=nthL T u) (k:=3+prcT T v) (i:=3+prcT T v) (x:=(w:Int)) hlen
   rw[this,if_pos rfl]
  ·unfold repT
   rw[h3,←hp,List.set_set]
def folB (T:List (List Int)) (lab:Nat→Int) (v w:Nat):Bool:=(List.range T.length).all fun u=> !hrsB T u v||(decide (0≤repT T u v w)&&decide (lab (repT T u v w).toNat=lab u))
theorem ym {T:List (List Int)} {lab:Nat→Int} {v w:Nat}:folB T lab v w=true↔∀u,u<T.length→hrsB T u v=true→0≤repT T u v w∧lab (repT T u v w).toNat=lab u:=by
 unfold folB
 simp only[List.all_eq_true,List.mem_range,Bool.or_eq_true,Bool.not_eq_true',Bool.and_eq_true,decide_eq_true_iff]
 constructor
 ·intro h u hu h1
  rcases h u hu with h2 | h2
  ·rw[h1]at h2;cases h2
  ·exact h2
 ·intro h u hu
  cases h1:hrsB T u v with
  | false=>exact .inl rfl
  | true=>exact .inr (h u hu h1)
theorem zbO {T:List (List Int)} (hn:T.Nodup) (lab:Nat→Int) (v:Nat):folB T lab v v=true:=ym.2 fun u hu h=>by
 rw[Xk hn hu h]
 exact ⟨by omega,by rw[Int.toNat_natCast]⟩
theorem zae {N K:Nat} {T:List (List Int)} (hT:TabOK N K T) {lab:Nat→Int} {v w x:Nat} (hv:v<T.length) (hp:prcT T v=prcT T w) (h:folB T lab v w=true) (h':folB T lab w x=true):folB T lab v x=true:=ym.2 fun u hu hh=>by
 obtain ⟨h1,h2⟩:=ym.1 h u hu hh
 obtain ⟨y,hy⟩:∃y:Nat,repT T u v w=y:=⟨(repT T u v w).toNat,by omega⟩
 obtain ⟨h3,h4,h5⟩:=zbe (b:=(x:Int)) hT hu hv hp hh hy
 obtain ⟨h6,h7⟩:=ym.1 h' y h3 h4
 rw[hy,Int.toNat_natCast]at h2
 rw[h5]at h6 h7
 exact ⟨h6,by rw[h7,h2]⟩
def samB (T:List (List Int)) (ch:List Int) (lab:Nat→Int) (v w:Nat):Bool:=(decide (prcT T v=prcT T w)&&decide (rndT T v=rndT T w))&&(decide (nth ch v=nth ch w)&&(folB T lab v w&&folB T lab w v))
theorem yp {T:List (List Int)} {ch:List Int} {lab:Nat→Int} {v w:Nat}:samB T ch lab v w=true↔prcT T v=prcT T w∧rndT T v=rndT T w∧nth ch v=nth ch w∧folB T lab v w=true∧folB T lab w v=true:=by
 unfold samB
 simp only[Bool.and_eq_true,decide_eq_true_iff]
 constructor
 ·rintro ⟨⟨a,b⟩,c,d,e⟩;exact ⟨a,b,c,d,e⟩
 ·rintro ⟨a,b,c,d,e⟩;exact ⟨⟨a,b⟩,c,d,e⟩
theorem Z1 {T:List (List Int)} (hn:T.Nodup) (ch:List Int) (lab:Nat→Int) (v:Nat):samB T ch lab v v=true:=yp.2 ⟨rfl,rfl,rfl,zbO hn _ _,zbO hn _ _⟩
theorem QJ {T:List (List Int)} {ch:List Int} {lab:Nat→Int} {v w:Nat} (h:samB T ch lab v w=true):samB T ch lab w v=true:=by
 obtain ⟨a,b,c,d,e⟩:=yp.1 h
 exact yp.2 ⟨a.symm,b.symm,c.symm,e,d⟩
theorem Zq {N K:Nat} {T:List (List Int)} (hT:TabOK N K T) {ch:List Int} {lab:Nat→Int} {v w x:Nat} (hv:v<T.length) (hx:x<T.length) (h:samB T ch lab v w=true) (h':samB T ch lab w x=true):samB T ch lab v x=true:=by
 obtain ⟨a,b,c,d,e⟩:=yp.1 h
 obtain ⟨a',b',c',d',e'⟩:=yp.1 h'
 exact yp.2 ⟨a.trans a',b.trans b',c.trans c',zae hT hv a d d',zae hT hx a'.symm e' e⟩
theorem YV {N K:Nat} {T:List (List Int)} (hT:TabOK N K T) {lab lab':Nat→Int} {v w:Nat} (hv:v<T.length) (hw:w<T.length) (hp:prcT T v=prcT T w) (h:∀u,u<T.length→rndT T u=rndT T v+1→lab u=lab' u) (hr:rndT T v=rndT T w):folB T lab v w=folB T lab' v w:=by
 have key:∀{l l':Nat→Int},(∀u,u<T.length→rndT T u=rndT T v+1→l u=l' u)→folB T l v w=true→folB T l' v w=true:=fun hl hh=>ym.2 fun u hu h1=>by
  obtain ⟨h2,h3⟩:=ym.1 hh u hu h1
  obtain ⟨y,hy⟩:∃y:Nat,repT T u v w=y:=⟨(repT T u v w).toNat,by omega⟩
  obtain ⟨h4,h5,_⟩:=zbe (b:=0) hT hu hv hp h1 hy
  rw[hy,Int.toNat_natCast]at h3 ⊢
  have e1:=hl u hu (YH hT hu hv h1)
  have e2:=hl y h4 (by rw[YH hT h4 hw h5,hr])
  exact ⟨by omega,by rw[←e1,←e2];exact h3⟩
 rw[Bool.eq_iff_iff]
 exact ⟨key h,key fun u hu h1=>(h u hu h1).symm⟩
def lstV (T:List (List Int)) (ch:List Int) (lab:Nat→Int) (v:Nat):Nat:=(minT (fun w=>samB T ch lab v w) 0 (v+1)).toNat
theorem yl {T:List (List Int)} (hn:T.Nodup) (ch:List Int) (lab:Nat→Int) (v:Nat):lstV T ch lab v≤v∧samB T ch lab v (lstV T ch lab v)=true∧∀w,w<lstV T ch lab v→samB T ch lab v w=false:=by
 unfold lstV
 rcases minF (fun w=>samB T ch lab v w) (v+1) 0 with ⟨_,h⟩ | ⟨t,h1,h2,h3,h4,h5⟩
 ·have:=h v (by omega) (by omega)
  rw[Z1 hn]at this;cases this
 ·rw[h1,Int.toNat_natCast]
  exact ⟨by omega,h4,fun w hw=>h5 w (by omega) hw⟩
theorem zaO {T:List (List Int)} (hn:T.Nodup) {ch:List Int} {lab:Nat→Int} {v w:Nat} (h:samB T ch lab v w=true):lstV T ch lab v≤w:=by
 apply Decidable.byContradiction
 intro hlt
 have:=(yl hn ch lab v).2.2 w (by omega)
 rw[h]at this;cases this
theorem zbR {N K:Nat} {T:List (List Int)} (hT:TabOK N K T) (hn:T.Nodup) {ch:List Int} {lab:Nat→Int} {v w:Nat} (hv:v<T.length) (hw:w<T.length):lstV T ch lab v=lstV T ch lab w↔samB T ch lab v w=true:=by
 obtain ⟨a1,a2,_⟩:=yl hn ch lab v
 obtain ⟨b1,b2,_⟩:=yl hn ch lab w
 constructor
 ·intro h
  rw[←h]at b2
  exact Zq hT hv hw a2 (QJ b2)
 ·intro h
  have h1:=zaO hn (Zq hT hv (by omega) h b2)
  have h2:=zaO hn (Zq hT hw (by omega) (QJ h) a2)
  omega
theorem zfn {N K:Nat} {T:List (List Int)} (hT:TabOK N K T) (hn:T.Nodup) {ch:List Int} {lab:Nat→Int} {v:Nat} (hv:v<T.length):lstV T ch lab (lstV T ch lab v)=lstV T ch lab v:=by
 obtain ⟨a1,a2,_⟩:=yl hn ch lab v
 exact ((zbR hT hn hv (by omega)).2 a2).symm
theorem zdD {N K:Nat} {T:List (List Int)} (hT:TabOK N K T) (hn:T.Nodup) {ch:List Int} {lab:Nat→Int} {v w:Nat} (hv:v<T.length) (hw:w<T.length) (hl:lstV T ch lab w=w) (h:samB T ch lab v w=true):w=lstV T ch lab v:=by
 rw[(zbR hT hn hv hw).2 h,hl]
def quoF (T:List (List Int)) (ch:List Int) (K:Nat):Nat→Nat→Int
 | 0,_=>0
 | m+1,v=>if rndT T v+m=K then ((lstV T ch (quoF T ch K m) v:Nat):Int) else quoF T ch K m v
theorem Xj {T:List (List Int)} {ch:List Int} {K m v:Nat} (h:K+1≤rndT T v+m):∀j,quoF T ch K (m+j) v=quoF T ch K m v
 | 0=>rfl
 | j+1=>by
  rw[show m+(j+1)=(m+j)+1 from rfl,show quoF T ch K ((m+j)+1) v=if rndT T v+(m+j)=K then ((lstV T ch (quoF T ch K (m+j)) v:Nat):Int) else quoF T ch K (m+j) v from rfl,if_neg (by omega)]
  exact Xj h j
theorem zgx {T:List (List Int)} {ch:List Int} {K m v:Nat} (h:rndT T v+m=K) (j:Nat):quoF T ch K (m+1+j) v=((lstV T ch (quoF T ch K m) v:Nat):Int):=by
 rw[Xj (by omega) j,show quoF T ch K (m+1) v=if rndT T v+m=K then ((lstV T ch (quoF T ch K m) v:Nat):Int) else quoF T ch K m v from rfl,if_pos h]
def quoE (T:List (List Int)) (ch:List Int) (K v:Nat):Int:=quoF T ch K (K+1) v
theorem YJ {N K:Nat} {T:List (List Int)} (hT:TabOK N K T) {v:Nat} (hv:v<T.length):rndT T v≤K:=by
 obtain ⟨q,k,h⟩:=hT.2 v hv
 rw[h.rnd];exact h.kl
theorem zbc {N K:Nat} {T:List (List Int)} (hT:TabOK N K T) {ch:List Int} {v:Nat} (hv:v<T.length):quoE T ch K v=((lstV T ch (quoF T ch K (K - rndT T v)) v:Nat):Int):=by
 have:=YJ hT hv
 unfold quoE
 have h:=zgx (T:=T) (ch:=ch) (K:=K) (m:=K - rndT T v) (v:=v) (by omega) (rndT T v)
 rw[show K - rndT T v+1+rndT T v=K+1 by omega]at h
 exact h
theorem zed {N K:Nat} {T:List (List Int)} (hT:TabOK N K T) {ch:List Int} {v w:Nat} (hv:v<T.length) (hw:w<T.length):samB T ch (quoF T ch K (K - rndT T v)) v w=samB T ch (quoE T ch K) v w:=by
 have hk:=YJ hT hv
 by_cases hpr:prcT T v=prcT T w∧rndT T v=rndT T w
 ·have hl:∀u,u<T.length→rndT T u=rndT T v+1→quoF T ch K (K - rndT T v) u=quoE T ch K u:=fun u hu h=>by
   unfold quoE
   have h1:=YJ hT hu
   have:=Xj (T:=T) (ch:=ch) (K:=K) (m:=K - rndT T v) (v:=u) (by omega) (rndT T v+1)
   rw[show K - rndT T v+(rndT T v+1)=K+1 by omega]at this
   exact this.symm
  unfold samB
  rw[YV hT hv hw hpr.1 hl hpr.2,YV hT hw hv hpr.1.symm (fun u hu h=>hl u hu (by rw[h,hpr.2])) hpr.2.symm]
 ·unfold samB
  have:(decide (prcT T v=prcT T w)&&decide (rndT T v=rndT T w))=false:=by
   rw[Bool.and_eq_false_iff,decide_eq_false_iff_not,decide_eq_false_iff_not]
   by_cases h1:prcT T v=prcT T w
   ·exact .inr fun h2=>hpr ⟨h1,h2⟩
   ·exact .inl h1
  rw[this];rfl
theorem zfK {N K:Nat} {T:List (List Int)} (hT:TabOK N K T) (hn:T.Nodup) {ch:List Int} {v w:Nat} (hv:v<T.length) (hw:w<T.length):quoE T ch K v=quoE T ch K w↔samB T ch (quoE T ch K) v w=true:=by
 rw[zbc hT hv,zbc hT hw]
 constructor
 ·intro h
  have e:lstV T ch (quoF T ch K (K - rndT T v)) v=lstV T ch (quoF T ch K (K - rndT T w)) w:=by omega
  obtain ⟨a1,a2,_⟩:=yl hn ch (quoF T ch K (K - rndT T v)) v
  obtain ⟨b1,b2,_⟩:=yl hn ch (quoF T ch K (K - rndT T w)) w
  have r1:=(yp.1 a2).2.1
  have r2:=(yp.1 b2).2.1
  rw[←e]at r2
  have r3:rndT T v=rndT T w:=by omega
  rw[←r3]at e
  rw[←zed hT hv hw]
  exact (zbR hT hn hv hw).1 e
 ·intro h
  have r3:=(yp.1 h).2.1
  rw[←zed hT hv hw]at h
  rw[←r3,(zbR hT hn hv hw).2 h]
def quoL (s:SysF) (ch:List Int):List Int:=labs (keys (quoE s.tab ch s.K) s.tab.length)
theorem zew {s:SysF} (hg:GoodS s s.N s.K) {ch:List Int} {v w:Nat} (hv:v<s.tab.length) (hw:w<s.tab.length):nth (quoL s ch) v=nth (quoL s ch) w↔samB s.tab ch (quoE s.tab ch s.K) v w=true:=by
 unfold quoL
 rw[xb hv hw,zfK hg.tab hg.nodup hv hw]
theorem Qu {T:List (List Int)} {lab lab':Nat→Int} (h:∀i j,i<T.length→j<T.length→(lab i=lab j↔lab' i=lab' j)) (v w:Nat):folB T lab v w=folB T lab' v w:=by
 rw[Bool.eq_iff_iff,ym,ym]
 constructor<;>intro hh u hu h1<;>obtain ⟨h2,h3⟩:=hh u hu h1<;>have h4:=(xO (T:=T) (u:=u) (w:=v) (b:=(w:Int))).2
 ·exact ⟨h2,(h _ _ (by omega) hu).1 h3⟩
 ·exact ⟨h2,(h _ _ (by omega) hu).2 h3⟩
theorem zeS {s:SysF} (hg:GoodS s s.N s.K) {ch:List Int} {v w:Nat} (hv:v<s.tab.length) (hw:w<s.tab.length):nth (quoL s ch) v=nth (quoL s ch) w↔samB s.tab ch (nth (quoL s ch)) v w=true:=by
 rw[zew hg hv hw]
 have hl:∀i j,i<s.tab.length→j<s.tab.length→(quoE s.tab ch s.K i=quoE s.tab ch s.K j↔nth (quoL s ch) i=nth (quoL s ch) j):=fun i j hi hj=>by unfold quoL;exact (xb hi hj).symm
 unfold samB
 rw[Qu hl,Qu hl]
def FitP (T:List (List Int)) (ch cl:List Int):Prop:=∀v w,v<T.length→w<T.length→v≠w→nth cl v=nth cl w→(prcT T v=prcT T w∧rndT T v=rndT T w∧nth ch v=nth ch w)∧folB T (nth cl) v w=true
theorem zfV {T:List (List Int)} {ch cl:List Int} (h:FitP T ch cl) {v w:Nat} (hv:v<T.length) (hw:w<T.length) (hne:v≠w) (hc:nth cl v=nth cl w):samB T ch (nth cl) v w=true:=by
 obtain ⟨⟨a,b,c⟩,d⟩:=h v w hv hw hne hc
 exact yp.2 ⟨a,b,c,d,(h w v hw hv (fun e=>hne e.symm) hc.symm).2⟩
def fstC (cl:List Int) (v:Nat):Nat:=(minT (fun w=>decide (nth cl w=nth cl v)) 0 (v+1)).toNat
theorem Zf (cl:List Int) (v:Nat):fstC cl v≤v∧nth cl (fstC cl v)=nth cl v∧∀w,w<fstC cl v→nth cl w≠nth cl v:=by
 unfold fstC
 rcases minF (fun w=>decide (nth cl w=nth cl v)) (v+1) 0 with ⟨_,h⟩ | ⟨t,h1,h2,h3,h4,h5⟩
 ·have:=h v (by omega) (by omega)
  rw[decide_eq_true rfl]at this;cases this
 ·rw[h1,Int.toNat_natCast]
  exact ⟨by omega,of_decide_eq_true h4,fun w hw=>of_decide_eq_false (h5 w (by omega) hw)⟩
theorem zgr {cl:List Int} {v w:Nat} (h:nth cl v=nth cl w):fstC cl v=fstC cl w:=by
 obtain ⟨a1,a2,a3⟩:=Zf cl v
 obtain ⟨b1,b2,b3⟩:=Zf cl w
 rcases Nat.lt_trichotomy (fstC cl v) (fstC cl w) with h1 | h1 | h1
 ·exact absurd (a2.trans h) (b3 _ h1)
 ·exact h1
 ·exact absurd (b2.trans h.symm) (a3 _ h1)
theorem zbC {N K:Nat} {T:List (List Int)} (hT:TabOK N K T) (hn:T.Nodup) {ch cl:List Int}:FitP T ch cl↔∀v,v<T.length→samB T ch (nth cl) v (fstC cl v)=true:=by
 constructor
 ·intro h v hv
  obtain ⟨a1,a2,_⟩:=Zf cl v
  by_cases e:v=fstC cl v
  ·rw[←e];exact Z1 hn _ _ _
  ·exact zfV h hv (by omega) e a2.symm
 ·intro h v w hv hw hne hc
  have h1:=h v hv
  have h2:=h w hw
  rw[←zgr hc]at h2
  obtain ⟨a,b,c,d,_⟩:=yp.1 (Zq hT hv hw h1 (QJ h2))
  exact ⟨⟨a,b,c⟩,d⟩
theorem Xu {s:SysF} (hg:GoodS s s.N s.K) (ch:List Int):FitP s.tab ch (quoL s ch):=(zbC hg.tab hg.nodup).2 fun v hv=>by
 obtain ⟨a1,a2,_⟩:=Zf (quoL s ch) v
 exact (zeS hg hv (by omega)).1 a2.symm
def dsB (T:List (List Int)) (ch:List Int):Nat→Nat→Int→Bool
 | 0,u,o=>decide (o<0)|| !decide (nth ch u=nth ch o.toNat)
 | m+1,u,o=>decide (0≤o)&&(List.range T.length).any fun y=>hrsB T y u&&dsB T ch m y (repT T y u o)
theorem ZI {T:List (List Int)} {ch:List Int} {u:Nat} {o:Int}:dsB T ch 0 u o=true↔o<0∨nth ch u≠nth ch o.toNat:=by
 rw[show dsB T ch 0 u o=(decide (o<0)|| !decide (nth ch u=nth ch o.toNat)) from rfl,Bool.or_eq_true,decide_eq_true_iff,Bool.not_eq_true',decide_eq_false_iff_not]
theorem xQ {T:List (List Int)} {ch:List Int} {m u:Nat} {o:Int}:dsB T ch (m+1) u o=true↔0≤o∧∃y,y<T.length∧hrsB T y u=true∧dsB T ch m y (repT T y u o)=true:=by
 rw[show dsB T ch (m+1) u o=(decide (0≤o)&&(List.range T.length).any fun y=>hrsB T y u&&dsB T ch m y (repT T y u o)) from rfl]
 simp only[Bool.and_eq_true,decide_eq_true_iff,List.any_eq_true,List.mem_range]
theorem YG {N K:Nat} {T:List (List Int)} (hT:TabOK N K T) (hn:T.Nodup) {ch cl:List Int} (hf:FitP T ch cl):∀(m u w:Nat),u<T.length→w<T.length→nth cl u=nth cl w→dsB T ch m u w=false
 | 0,u,w,hu,hw,hc=>by
  cases h:dsB T ch 0 u w with
  | false=>rfl
  | true=>
   rcases ZI.1 h with h1 | h1
   ·omega
   ·rw[Int.toNat_natCast]at h1
    by_cases e:u=w
    ·subst e;exact absurd rfl h1
    ·exact absurd (hf u w hu hw e hc).1.2.2 h1
 | m+1,u,w,hu,hw,hc=>by
  cases h:dsB T ch (m+1) u w with
  | false=>rfl
  | true=>
   obtain ⟨_,y,hy,h1,h2⟩:=xQ.1 h
   have hfo:0≤repT T y u w∧nth cl (repT T y u w).toNat=nth cl y:=by
    by_cases e:u=w
    ·subst e
     rw[Xk hn hy h1,Int.toNat_natCast]
     exact ⟨by omega,rfl⟩
    ·exact ym.1 (hf u w hu hw e hc).2 y hy h1
   obtain ⟨z,hz⟩:∃z:Nat,repT T y u w=z:=⟨(repT T y u w).toNat,by omega⟩
   have hl:=(xO (T:=T) (u:=y) (w:=u) (b:=(w:Int))).2
   rw[hz]at h2 hfo
   rw[Int.toNat_natCast]at hfo
   rw[YG hT hn hf m y z hy (by omega) hfo.2.symm]at h2
   cases h2
theorem zeX {N K:Nat} {T:List (List Int)} (hT:TabOK N K T) {u v w y:Nat} (hu:u<T.length) (hv:v<T.length) (h:hrsB T u v=true) (hy:repT T u v w=(y:Int)):y<T.length∧prcT T y=prcT T u∧rndT T y=rndT T u:=by
 unfold repT at hy
 rcases QV (T:=T) (x:=(nthL T u).set (3+prcT T v) (w:Int)) with ⟨h1,_⟩ | ⟨z,h1,h2,h3⟩
 ·omega
 ·obtain rfl:z=y:=by omega
  have e:∀i,i<3→nth (nthL T z) i=nth (nthL T u) i:=fun i hi=>by
   rw[h3]
   by_cases hl:3+prcT T v<(nthL T u).length
   ·rw[QZ hl,if_neg (by omega)]
   ·rw[List.set_eq_of_length_le (by omega)]
  exact ⟨h2,by unfold prcT;rw[e 0 (by omega)],by unfold rndT;rw[e 1 (by omega)]⟩
theorem zgp {N K:Nat} {T:List (List Int)} (hT:TabOK N K T) (hn:T.Nodup) {ch:List Int}:∀(m v w:Nat),v<T.length→w<T.length→prcT T v=prcT T w→rndT T v=rndT T w→rndT T v+m=K→samB T ch (quoE T ch K) v w=false→∃j,j≤m∧(dsB T ch j v w=true∨dsB T ch j w v=true):=by
 intro m
 induction m with
 | zero=>
  intro v w hv hw hp hr hm h
  have hfo:∀a b,rndT T a=K→a<T.length→folB T (quoE T ch K) a b=true:=fun a b hk ha=>ym.2 fun u hu h1=>by
   have:=YH hT hu ha h1
   have:=YJ hT hu
   omega
  have hc:nth ch v≠nth ch w:=fun e=>by
   rw[yp.2 ⟨hp,hr,e,hfo v w (by omega) hv,hfo w v (by omega) hw⟩]at h
   cases h
  exact ⟨0,Nat.le_refl _,.inl (ZI.2 (.inr (by rw[Int.toNat_natCast];exact hc)))⟩
 | succ m ih=>
  intro v w hv hw hp hr hm h
  by_cases hc:nth ch v=nth ch w
  case neg=>exact ⟨0,by omega,.inl (ZI.2 (.inr (by rw[Int.toNat_natCast];exact hc)))⟩
  have key:∀a b,a<T.length→b<T.length→prcT T a=prcT T b→rndT T a=rndT T b→rndT T a+(m+1)=K→folB T (quoE T ch K) a b=false→∃j,j≤m+1∧(dsB T ch j a b=true∨dsB T ch j b a=true):=by
   intro a b ha hb hab hrr hmm hfo
   have hex:∃u,u<T.length∧hrsB T u a=true∧¬(0≤repT T u a b∧quoE T ch K (repT T u a b).toNat=quoE T ch K u):=by
    apply Classical.byContradiction
    intro hno
    rw[ym.2 fun u hu h1=>Classical.byContradiction fun h2=>hno ⟨u,hu,h1,h2⟩]at hfo
    cases hfo
   obtain ⟨u,hu,h1,h2⟩:=hex
   by_cases h0:repT T u a b<0
   ·exact ⟨1,by omega,.inl (xQ.2 ⟨by omega,u,hu,h1,ZI.2 (.inl h0)⟩)⟩
   ·obtain ⟨y,hy⟩:∃y:Nat,repT T u a b=y:=⟨(repT T u a b).toNat,by omega⟩
    obtain ⟨l1,l2,l3⟩:=zeX hT hu ha h1 hy
    obtain ⟨_,g2,g3⟩:=zbe (b:=(a:Int)) hT hu ha hab h1 hy
    rw[Xk hn hu h1]at g3
    have hne:samB T ch (quoE T ch K) u y=false:=by
     cases hs:samB T ch (quoE T ch K) u y with
     | false=>rfl
     | true=>
      have:=(zfK hT hn hu l1).2 hs
      rw[hy,Int.toNat_natCast]at h2
      exact absurd ⟨by omega,this.symm⟩ h2
    have hru:=YH hT hu ha h1
    obtain ⟨j,hj,hd⟩:=ih u y hu l1 l2.symm l3.symm (by omega) hne
    rcases hd with hd | hd
    ·exact ⟨j+1,by omega,.inl (xQ.2 ⟨by omega,u,hu,h1,by rw[hy];exact hd⟩)⟩
    ·exact ⟨j+1,by omega,.inr (xQ.2 ⟨by omega,y,l1,g2,by rw[g3];exact hd⟩)⟩
  cases hf1:folB T (quoE T ch K) v w with
  | false=>exact key v w hv hw hp hr hm hf1
  | true=>
   cases hf2:folB T (quoE T ch K) w v with
   | false=>
    obtain ⟨j,hj,hd⟩:=key w v hw hv hp.symm hr.symm (by omega) hf2
    exact ⟨j,hj,hd.symm⟩
   | true=>
    rw[yp.2 ⟨hp,hr,hc,hf1,hf2⟩]at h
    cases h
theorem zeg {s:SysF} (hg:GoodS s s.N s.K) {ch:List Int} {v w:Nat} (hv:v<s.tab.length) (hw:w<s.tab.length) (hp:prcT s.tab v=prcT s.tab w) (hr:rndT s.tab v=rndT s.tab w):
  nth (quoL s ch) v≠nth (quoL s ch) w↔∃j,j≤s.K∧(dsB s.tab ch j v w=true∨dsB s.tab ch j w v=true):=by
 constructor
 ·intro h
  have hs:samB s.tab ch (quoE s.tab ch s.K) v w=false:=by
   cases hs:samB s.tab ch (quoE s.tab ch s.K) v w with
   | false=>rfl
   | true=>exact absurd ((zew hg hv hw).2 hs) h
  have hk:=YJ hg.tab hv
  obtain ⟨j,hj,hd⟩:=zgp hg.tab hg.nodup (s.K - rndT s.tab v) v w hv hw hp hr (by omega) hs
  exact ⟨j,by omega,hd⟩
 ·rintro ⟨j,_,hd⟩ e
  rcases hd with hd | hd
  ·rw[YG hg.tab hg.nodup (Xu hg ch) j v w hv hw e]at hd;cases hd
  ·rw[YG hg.tab hg.nodup (Xu hg ch) j w v hw hv e.symm]at hd;cases hd
def fstL (f:Nat→List Int):Nat→Nat→List Int
 | _,0=>[]
 | k,n+1=>if f k=[] then fstL f (k+1) n else f k
theorem xn {f:Nat→List Int}:∀{n k:Nat},fstL f k n=[]↔∀i,k≤i→i<k+n→f i=[]
 | 0,k=>⟨fun _ i h1 h2=>by omega,fun _=>rfl⟩
 | n+1,k=>by
  rw[show fstL f k (n+1)=if f k=[] then fstL f (k+1) n else f k from rfl]
  by_cases h:f k=[]
  ·rw[if_pos h,xn]
   constructor
   ·intro hh i h1 h2
    by_cases e:i=k
    ·subst e;exact h
    ·exact hh i (by omega) (by omega)
   ·intro hh i h1 h2;exact hh i (by omega) (by omega)
  ·rw[if_neg h]
   exact ⟨fun hh=>absurd hh h,fun hh=>hh k (by omega) (by omega)⟩
def pthT (T:List (List Int)) (ch:List Int):Nat→Nat→Int→List Int
 | 0,u,o=>if o<0∨nth ch u≠nth ch o.toNat then [(u:Int)] else []
 | m+1,u,o=>if o<0 then [] else if fstL (fun y=>if hrsB T y u then pthT T ch m y (repT T y u o) else []) 0 T.length=[] then [] else (u:Int)::fstL (fun y=>if hrsB T y u then pthT T ch m y (repT T y u o) else []) 0 T.length
theorem Ya {T:List (List Int)} {ch:List Int}:∀{m u:Nat} {o:Int},pthT T ch m u o=[]↔dsB T ch m u o=false
 | 0,u,o=>by
  rw[show pthT T ch 0 u o=if o<0∨nth ch u≠nth ch o.toNat then [(u:Int)] else [] from rfl]
  constructor
  ·intro h
   cases hd:dsB T ch 0 u o with
   | false=>rfl
   | true=>rw[if_pos (ZI.1 hd)]at h;cases h
  ·intro h
   rw[if_neg]
   intro hn
   rw[ZI.2 hn]at h;cases h
 | m+1,u,o=>by
  rw[show pthT T ch (m+1) u o=if o<0 then [] else if fstL (fun y=>if hrsB T y u then pthT T ch m y (repT T y u o) else []) 0 T.length=[] then [] else (u:Int)::fstL (fun y=>if hrsB T y u then pthT T ch m y (repT T y u o) else []) 0 T.length from rfl]
  by_cases h0:o<0
  ·rw[if_pos h0]
   refine ⟨fun _=>?_,fun _=>rfl⟩
   cases hd:dsB T ch (m+1) u o with
   | false=>rfl
   | true=>have:=(xQ.1 hd).1;omega
  ·rw[if_neg h0]
   by_cases h1:fstL (fun y=>if hrsB T y u then pthT T ch m y (repT T y u o) else []) 0 T.length=[]
   ·rw[if_pos h1]
    refine ⟨fun _=>?_,fun _=>rfl⟩
    cases hd:dsB T ch (m+1) u o with
    | false=>rfl
    | true=>
     obtain ⟨_,y,hy,h2,h3⟩:=xQ.1 hd
     have:=xn.1 h1 y (by omega) (by omega)
     rw[if_pos h2]at this
     rw[Ya.1 this]at h3
     cases h3
   ·rw[if_neg h1]
    constructor
    ·intro h;cases h
    ·intro h
     exfalso
     refine h1 (xn.2 fun y h2 h3=>?_)
     cases hh:hrsB T y u with
     | false=>rw[if_neg (by simp)]
     | true=>
      rw[if_pos rfl,Ya]
      cases hd:dsB T ch m y (repT T y u o) with
      | false=>rfl
      | true=>rw[xQ.2 ⟨by omega,y,by omega,hh,hd⟩]at h;cases h
def outP (T:List (List Int)) (ch:List Int):Nat→Int→List Int→Bool
 | x,o,[]=>decide (o<0)|| !decide (nth ch x=nth ch o.toNat)
 | x,o,y::r=>decide (0≤o)&&(hrsB T y.toNat x&&outP T ch y.toNat (repT T y.toNat x o) r)
def aprB (T:List (List Int)) (ch:List Int) (v w:Nat):List Int→Bool
 | []=>false
 | x::r=>if x=(w:Int) then outP T ch w v r else if x=(v:Int) then outP T ch v w r else false
theorem zei {T:List (List Int)} {ch:List Int}:∀{m u:Nat} {o:Int},pthT T ch m u o≠[]→∃r,pthT T ch m u o=(u:Int)::r∧r.length=m∧outP T ch u o r=true∧∀x∈r,∃y:Nat,x=y∧y<T.length
 | 0,u,o,h=>by
  rw[show pthT T ch 0 u o=if o<0∨nth ch u≠nth ch o.toNat then [(u:Int)] else [] from rfl]at h ⊢
  by_cases hc:o<0∨nth ch u≠nth ch o.toNat
  ·rw[if_pos hc]
   refine ⟨[],rfl,rfl,?_,fun x hx=>by cases hx⟩
   show (decide (o<0)|| !decide (nth ch u=nth ch o.toNat))=true
   rw[Bool.or_eq_true,decide_eq_true_iff,Bool.not_eq_true',decide_eq_false_iff_not]
   exact hc
  ·rw[if_neg hc]at h;exact absurd rfl h
 | m+1,u,o,h=>by
  rw[show pthT T ch (m+1) u o=if o<0 then [] else if fstL (fun y=>if hrsB T y u then pthT T ch m y (repT T y u o) else []) 0 T.length=[] then [] else (u:Int)::fstL (fun y=>if hrsB T y u then pthT T ch m y (repT T y u o) else []) 0 T.length from rfl]at h ⊢
  by_cases h0:o<0
  ·rw[if_pos h0]at h;exact absurd rfl h
  ·rw[if_neg h0]at h ⊢
   by_cases h1:fstL (fun y=>if hrsB T y u then pthT T ch m y (repT T y u o) else []) 0 T.length=[]
   ·rw[if_pos h1]at h;exact absurd rfl h
   ·rw[if_neg h1]
    have hfs:∀n k,fstL (fun y=>if hrsB T y u then pthT T ch m y (repT T y u o) else []) k n≠[]→∃y,k≤y∧y<k+n∧fstL (fun y=>if hrsB T y u then pthT T ch m y (repT T y u o) else []) k n=(if hrsB T y u then pthT T ch m y (repT T y u o) else []):=by
     intro n
     induction n with
     | zero=>intro k hk;exact absurd rfl hk
     | succ n ih=>
      intro k hk
      rw[show fstL (fun y=>if hrsB T y u then pthT T ch m y (repT T y u o) else []) k (n+1)=if (if hrsB T k u then pthT T ch m k (repT T k u o) else [])=[] then fstL (fun y=>if hrsB T y u then pthT T ch m y (repT T y u o) else []) (k+1) n else (if hrsB T k u then pthT T ch m k (repT T k u o) else []) from rfl]at hk ⊢
      by_cases h2:(if hrsB T k u then pthT T ch m k (repT T k u o) else [])=[]
      ·rw[if_pos h2]at hk ⊢
       obtain ⟨y,a,b,c⟩:=ih (k+1) hk
       exact ⟨y,by omega,by omega,c⟩
      ·rw[if_neg h2];exact ⟨k,Nat.le_refl _,by omega,rfl⟩
    obtain ⟨y,_,hy,he⟩:=hfs T.length 0 h1
    rw[he]at h1 ⊢
    cases hh:hrsB T y u with
    | false=>rw[hh,if_neg (by simp)]at h1;exact absurd rfl h1
    | true=>
     rw[hh,if_pos rfl]at h1
     obtain ⟨r,a,b,c,d⟩:=zei h1
     refine ⟨(y:Int)::r,by rw[if_pos rfl,a],by rw[List.length_cons,b],?_,fun x hx=>?_⟩
     ·show (decide (0≤o)&&(hrsB T (y:Int).toNat u&&outP T ch (y:Int).toNat (repT T (y:Int).toNat u o) r))=true
      rw[Int.toNat_natCast,hh,c,decide_eq_true (by omega)];rfl
     ·rcases List.mem_cons.1 hx with e | hx
      ·exact ⟨y,e,by omega⟩
      ·exact d x hx
def alkB (T:List (List Int)) (ch:List Int) (v w:Nat):Bool:=(decide (prcT T v=prcT T w)&&decide (rndT T v=rndT T w))&&decide (nth ch v=nth ch w)
theorem zd8 {T:List (List Int)} {ch:List Int} {v w:Nat}:alkB T ch v w=true↔(prcT T v=prcT T w∧rndT T v=rndT T w)∧nth ch v=nth ch w:=by
 unfold alkB
 rw[Bool.and_eq_true,Bool.and_eq_true,decide_eq_true_iff,decide_eq_true_iff,decide_eq_true_iff]
theorem zf8 (T:List (List Int)) (ch:List Int) (lab:Nat→Int) (v w:Nat):samB T ch lab v w=(alkB T ch v w&&(folB T lab v w&&folB T lab w v)):=by
 unfold samB alkB
 rw[Bool.and_assoc,Bool.and_assoc,Bool.and_assoc]
def labP (T:List (List Int)) (ch:List Int) (K m j u:Nat):Int:=if rndT T u+m=K∧u<j then ((lstV T ch (quoF T ch K m) u:Nat):Int) else quoF T ch K m u
theorem Yh (T:List (List Int)) (ch:List Int) (K m:Nat):labP T ch K m 0=quoF T ch K m:=by
 funext u;unfold labP;rw[if_neg (by omega)]
theorem zeJ {T:List (List Int)} {ch:List Int} {K m u:Nat} (hu:u<T.length):labP T ch K m T.length u=quoF T ch K (m+1) u:=by
 unfold labP
 show _=if rndT T u+m=K then ((lstV T ch (quoF T ch K m) u:Nat):Int) else quoF T ch K m u
 by_cases h:rndT T u+m=K
 ·rw[if_pos ⟨h,hu⟩,if_pos h]
 ·rw[if_neg (fun e=>h e.1),if_neg h]
theorem zde {T:List (List Int)} {ch:List Int} {K m j:Nat} (h:rndT T j+m≠K):labP T ch K m (j+1)=labP T ch K m j:=by
 funext u
 unfold labP
 by_cases h1:rndT T u+m=K∧u<j
 ·rw[if_pos h1,if_pos ⟨h1.1,by omega⟩]
 ·rw[if_neg h1,if_neg]
  rintro ⟨a,b⟩
  refine h1 ⟨a,?_⟩
  have:u≠j:=fun e=>h (e▸a)
  omega
theorem zdN {T:List (List Int)} {ch:List Int} {K m j:Nat} (h:rndT T j+m=K) (u:Nat):labP T ch K m (j+1) u=if u=j then ((lstV T ch (quoF T ch K m) j:Nat):Int) else labP T ch K m j u:=by
 unfold labP
 by_cases e:u=j
 ·subst e;rw[if_pos ⟨h,by omega⟩,if_pos rfl]
 ·rw[if_neg e]
  by_cases h1:rndT T u+m=K∧u<j
  ·rw[if_pos h1,if_pos ⟨h1.1,by omega⟩]
  ·rw[if_neg h1,if_neg]
   rintro ⟨a,b⟩
   exact h1 ⟨a,by omega⟩
structure LabI (T:List (List Int)) (ch:List Int) (K m j:Nat) (L:List Int):Prop where
 len:L.length=T.length
 at':∀u,u<T.length→nth L u=labP T ch K m j u
structure LabA (T:List (List Int)) (ch:List Int) (K m:Nat) (L:List Int):Prop where
 len:L.length=T.length
 at':∀u,u<T.length→K<rndT T u+m→nth L u=quoF T ch K m u
theorem LabI.a {T:List (List Int)} {ch:List Int} {K m j:Nat} {L:List Int} (h:LabI T ch K m j L):LabA T ch K m L:=⟨h.len,fun u hu hk=>by
 rw[h.at' u hu];unfold labP;rw[if_neg (by omega)]⟩
theorem nthSet {l:List Int} {i j:Nat} {b:Int} (hi:i<l.length):nth (l.set i b) j=if j=i then b else nth l j:=by
 unfold nth
 rw[List.getD_eq_getElem?_getD,List.getD_eq_getElem?_getD,List.getElem?_set]
 by_cases e:i=j
 ·subst e;rw[if_pos rfl,if_pos hi,if_pos rfl];rfl
 ·rw[if_neg e,if_neg (fun h=>e h.symm)]
theorem LabA.set {T:List (List Int)} {ch:List Int} {K m v:Nat} {L:List Int} (h:LabA T ch K m L) (hv:v<T.length) (hk:rndT T v+m=K) (x:Int):LabA T ch K m (L.set v x):=⟨by rw[List.length_set];exact h.len,fun u hu hku=>by
 rw[nthSet (by rw[h.len];exact hv),if_neg (by intro e;subst e;omega)];exact h.at' u hu hku⟩
theorem LabI.start {T:List (List Int)} {ch:List Int} {K m:Nat} {L:List Int} (h:LabI T ch K m T.length L):LabI T ch K (m+1) 0 L:=⟨h.len,fun u hu=>by rw[h.at' u hu,zeJ hu,Yh]⟩
theorem LabI.skip {T:List (List Int)} {ch:List Int} {K m j:Nat} {L:List Int} (h:LabI T ch K m j L) (hj:rndT T j+m≠K):LabI T ch K m (j+1) L:=⟨h.len,fun u hu=>by rw[zde hj];exact h.at' u hu⟩
theorem LabI.step {T:List (List Int)} {ch:List Int} {K m j:Nat} {L:List Int} (h:LabI T ch K m j L) (hj:rndT T j+m=K) (hjl:j<T.length):LabI T ch K m (j+1) (L.set j ((lstV T ch (quoF T ch K m) j:Nat):Int)):=⟨by rw[List.length_set];exact h.len,fun u hu=>by
 rw[nthSet (by rw[h.len];exact hjl),zdN hj,h.at' u hu]⟩
theorem LabI.zero (T:List (List Int)) (ch:List Int) (K:Nat):LabI T ch K 0 0 (List.replicate T.length 0):=⟨by simp,fun u hu=>by
 rw[Yh]
 show nth (List.replicate T.length 0) u=0
 simp[nth,hu]⟩
theorem LabI.done {T:List (List Int)} {ch:List Int} {K:Nat} {L:List Int} (h:LabI T ch K (K+1) 0 L):L=keys (quoE T ch K) T.length:=by
 apply List.ext_getElem
 ·rw[length_keys,h.len]
 ·intro i h1 h2
  have h3:i<T.length:=by rw[←h.len];exact h1
  have:=h.at' i h3
  rw[yh h1,Yh]at this
  rw[this];simp[keys,quoE]
theorem zez {N K:Nat} {T:List (List Int)} (hT:TabOK N K T) {ch L:List Int} {m v w:Nat} (hL:LabA T ch K m L) (hk:rndT T v+m=K) (hv:v<T.length) (hw:w<T.length) (hp:prcT T v=prcT T w) (hr:rndT T v=rndT T w):folB T (nth L) v w=folB T (quoF T ch K m) v w:=
 YV hT hv hw hp (fun u hu h=>hL.at' u hu (by omega)) hr
theorem zeI {N K:Nat} {T:List (List Int)} (hT:TabOK N K T) {ch L:List Int} {m v w:Nat} (hL:LabA T ch K m L) (hk:rndT T v+m=K) (hv:v<T.length) (hw:w<T.length):samB T ch (nth L) v w=samB T ch (quoF T ch K m) v w:=by
 by_cases hpr:prcT T v=prcT T w∧rndT T v=rndT T w
 ·unfold samB
  rw[zez hT hL hk hv hw hpr.1 hpr.2,zez hT hL (by omega) hw hv hpr.1.symm hpr.2.symm]
 ·unfold samB
  have:(decide (prcT T v=prcT T w)&&decide (rndT T v=rndT T w))=false:=by
   rw[Bool.and_eq_false_iff,decide_eq_false_iff_not,decide_eq_false_iff_not]
   by_cases h1:prcT T v=prcT T w
   ·exact .inr fun h2=>hpr ⟨h1,h2⟩
   ·exact .inl h1
  rw[this];rfl
structure DnI (T:List (List Int)) (ch:List Int) (lab:Nat→Int) (v i x:Nat):Prop where
 le:i≤x∧x≤v
 hit:samB T ch lab v x=true
 low:∀w,i≤w→w<x→samB T ch lab v w=false
theorem DnI.start {T:List (List Int)} (hn:T.Nodup) (ch:List Int) (lab:Nat→Int) (v:Nat):DnI T ch lab v v v:=⟨⟨Nat.le_refl _,Nat.le_refl _⟩,Z1 hn _ _ _,fun w h1 h2=>by omega⟩
theorem DnI.yes {T:List (List Int)} {ch:List Int} {lab:Nat→Int} {v i x:Nat} (h:DnI T ch lab v (i+1) x) (hs:samB T ch lab v i=true):DnI T ch lab v i i:=⟨⟨Nat.le_refl _,by have:=h.le;omega⟩,hs,fun w h1 h2=>by omega⟩
theorem DnI.no {T:List (List Int)} {ch:List Int} {lab:Nat→Int} {v i x:Nat} (h:DnI T ch lab v (i+1) x) (hs:samB T ch lab v i=false):DnI T ch lab v i x:=⟨⟨by have:=h.le;omega,h.le.2⟩,h.hit,fun w h1 h2=>by
 by_cases e:w=i
 ·subst e;exact hs
 ·exact h.low w (by omega) h2⟩
theorem DnI.done {T:List (List Int)} (hn:T.Nodup) {ch:List Int} {lab:Nat→Int} {v x:Nat} (h:DnI T ch lab v 0 x):x=lstV T ch lab v:=by
 have h1:=zaO hn h.hit
 have h2:=(yl hn ch lab v).2.1
 apply Decidable.byContradiction
 intro hne
 rw[h.low _ (by omega) (by omega)]at h2
 cases h2
def firL (T:List (List Int)) (ch:List Int) (K m j:Nat):List Nat:=(List.range j).filter fun w=>decide (rndT T w+m=K)&&decide (lstV T ch (quoF T ch K m) w=w)
theorem zbr {T:List (List Int)} {ch:List Int} {K m j w:Nat}:w∈firL T ch K m j↔w<j∧rndT T w+m=K∧lstV T ch (quoF T ch K m) w=w:=by
 unfold firL
 rw[List.mem_filter,List.mem_range,Bool.and_eq_true,decide_eq_true_iff,decide_eq_true_iff]
theorem zgb (T:List (List Int)) (ch:List Int) (K m j:Nat):(firL T ch K m j).length≤j:=by
 unfold firL;exact Nat.le_trans (List.length_filter_le _ _) (by simp)
theorem zeQ {T:List (List Int)} {ch:List Int} {K m j:Nat} (h:rndT T j+m≠K):firL T ch K m (j+1)=firL T ch K m j:=by
 unfold firL;rw[List.range_succ,List.filter_append,List.filter_cons,decide_eq_false h];simp
theorem zfU {T:List (List Int)} {ch:List Int} {K m j:Nat} (h:lstV T ch (quoF T ch K m) j≠j):firL T ch K m (j+1)=firL T ch K m j:=by
 unfold firL;rw[List.range_succ,List.filter_append,List.filter_cons,decide_eq_false h];simp
theorem zfP {T:List (List Int)} {ch:List Int} {K m j:Nat} (h0:rndT T j+m=K) (h:lstV T ch (quoF T ch K m) j=j):firL T ch K m (j+1)=firL T ch K m j++[j]:=by
 unfold firL;rw[List.range_succ,List.filter_append,List.filter_cons,decide_eq_true h,decide_eq_true h0];rfl
theorem zfS {N K:Nat} {T:List (List Int)} (hT:TabOK N K T) (hn:T.Nodup) {ch:List Int} {m v w:Nat} (hv:v<T.length) (hw:w∈firL T ch K m v) (h:samB T ch (quoF T ch K m) v w=true):lstV T ch (quoF T ch K m) v=w:=by
 obtain ⟨h1,_,h3⟩:=zbr.1 hw
 exact (zdD hT hn hv (by omega) h3 h).symm
theorem zfg {N K:Nat} {T:List (List Int)} (hT:TabOK N K T) (hn:T.Nodup) {ch:List Int} {m v:Nat} (hv:v<T.length) (hk:rndT T v+m=K) (h:∀w∈firL T ch K m v,samB T ch (quoF T ch K m) v w=false):lstV T ch (quoF T ch K m) v=v:=by
 obtain ⟨a1,a2,_⟩:=yl hn ch (quoF T ch K m) v
 apply Decidable.byContradiction
 intro hne
 have hr:=(yp.1 a2).2.1
 have:=h _ (zbr.2 ⟨by omega,by omega,zfn hT hn hv⟩)
 rw[a2]at this;cases this
def disF (T:List (List Int)) (ch:List Int) (a b m:Nat):List Int:=if pthT T ch m a b=[] then pthT T ch m b a else pthT T ch m a b
def disL (T:List (List Int)) (ch:List Int) (K a b:Nat):List Int:=fstL (disF T ch a b) 0 (K+1)
theorem zbP {T:List (List Int)} {ch:List Int} {a b m:Nat}:disF T ch a b m=[]↔dsB T ch m a b=false∧dsB T ch m b a=false:=by
 unfold disF
 by_cases h:pthT T ch m a b=[]
 ·rw[if_pos h,Ya];exact ⟨fun h2=>⟨Ya.1 h,h2⟩,fun h2=>h2.2⟩
 ·rw[if_neg h];exact ⟨fun h2=>absurd h2 h,fun h2=>absurd (Ya.2 h2.1) h⟩
theorem zes {s:SysF} (hg:GoodS s s.N s.K) {ch:List Int} {v w:Nat} (hv:v<s.tab.length) (hw:w<s.tab.length) (hp:prcT s.tab v=prcT s.tab w) (hr:rndT s.tab v=rndT s.tab w):disL s.tab ch s.K v w=[]↔nth (quoL s ch) v=nth (quoL s ch) w:=by
 unfold disL
 rw[xn]
 constructor
 ·intro h
  apply Classical.byContradiction
  intro hne
  obtain ⟨j,hj,hd⟩:=(zeg hg hv hw hp hr).1 hne
  obtain ⟨h1,h2⟩:=zbP.1 (h j (by omega) (by omega))
  rcases hd with hd | hd
  ·rw[h1]at hd;cases hd
  ·rw[h2]at hd;cases hd
 ·intro h i _ hi
  rw[zbP]
  constructor
  ·exact YG hg.tab hg.nodup (Xu hg ch) i v w hv hw h
  ·exact YG hg.tab hg.nodup (Xu hg ch) i w v hw hv h.symm
end Go.Proofs.YtfjlhjkjjbiliaaGreat
