/- Part of the proof that the laws answer true for every input. -/
import Derived.Test.YtiabbjolepnjkaaGreatPMaA22
set_option linter.unusedSimpArgs false
set_option linter.unnecessarySimpa false
set_option linter.unusedVariables false
set_option maxRecDepth 100000
set_option maxHeartbeats 40000000
namespace Go.Proofs.YtiabbjolepnjkaaGreat
def folP (T:List (List Int)) (lab:Nat→Int) (t v w:Nat):Bool:=(List.range T.length).all fun u=> !(decide (prcT T u=t)&&hrsB T u v)||(decide (0≤repT T u v w)&&decide (lab (repT T u v w).toNat=lab u))
theorem qQ {T:List (List Int)} {lab:Nat→Int} {t v w:Nat}:folP T lab t v w=true↔∀u,u<T.length→prcT T u=t→hrsB T u v=true→0≤repT T u v w∧lab (repT T u v w).toNat=lab u:=by
 unfold folP;simp only[List.all_eq_true,List.mem_range,Bool.or_eq_true,Bool.not_eq_true',Bool.and_eq_true,decide_eq_true_iff];constructor
 ·intro h u hu h0 h1;rcases h u hu with h2 | h2
  ·rw[decide_eq_true h0,h1]at h2;cases h2
  ·exact h2
 ·intro h u hu;by_cases h0:prcT T u=t
  ·cases h1:hrsB T u v with
   | false=>left;simp
   | true=>exact .inr (h u hu h0 h1)
  ·left;rw[decide_eq_false h0];rfl
theorem zaF {T:List (List Int)} (hn:T.Nodup) (lab:Nat→Int) (t v:Nat):folP T lab t v v=true:=qQ.2 fun u hu _ h=>by
 rw[zbV hn hu h];exact ⟨by omega,by rw[Int.toNat_natCast]⟩
theorem Qf {N K:Nat} {T:List (List Int)} (hT:TabOK N K T) {lab:Nat→Int} {t v w x:Nat} (hv:v<T.length) (hp:prcT T v=prcT T w) (h:folP T lab t v w=true) (h':folP T lab t w x=true):folP T lab t v x=true:=qQ.2 fun u hu ht hh=>by
 obtain ⟨h1,h2⟩:=qQ.1 h u hu ht hh;obtain ⟨y,hy⟩:∃y:Nat,repT T u v w=y:=⟨(repT T u v w).toNat,by omega⟩;obtain ⟨h3,h4,h5⟩:=zek (b:=(x:Int)) hT hu hv hp hh hy;obtain ⟨_,l2,_⟩:=zfI hT hu hv hh hy;obtain ⟨h6,h7⟩:=qQ.1 h' y h3 (by rw[l2,ht]) h4;rw[hy,Int.toNat_natCast]at h2;rw[h5]at h6 h7;exact ⟨h6,by rw[h7,h2]⟩
def eqP (T:List (List Int)) (lab:Nat→Int) (t v w:Nat):Bool:=folP T lab t v w&&folP T lab t w v
theorem za2 {T:List (List Int)} {lab:Nat→Int} {t v w:Nat}:eqP T lab t v w=true↔folP T lab t v w=true∧folP T lab t w v=true:=by unfold eqP;rw[Bool.and_eq_true]
theorem zfB {T:List (List Int)} (hn:T.Nodup) (lab:Nat→Int) (t v:Nat):eqP T lab t v v=true:=za2.2 ⟨zaF hn _ _ _,zaF hn _ _ _⟩
theorem zeY {T:List (List Int)} {lab:Nat→Int} {t v w:Nat} (h:eqP T lab t v w=true):eqP T lab t w v=true:=by
 rw[za2]at h ⊢;exact h.symm
theorem zdn {N K:Nat} {T:List (List Int)} (hT:TabOK N K T) {lab:Nat→Int} {t v w x:Nat} (hv:v<T.length) (hx:x<T.length) (hp:prcT T v=prcT T w) (hp':prcT T w=prcT T x) (h:eqP T lab t v w=true) (h':eqP T lab t w x=true):eqP T lab t v x=true:=by
 rw[za2]at h h' ⊢;exact ⟨Qf hT hv hp h.1 h'.1,Qf hT hx hp'.symm h'.2 h.2⟩
def fclN (cl:List Int) (c:Nat):Nat:=(minT (fun v=>decide (nth cl v=(c:Int))) 0 cl.length).toNat
theorem QD {cl:List Int} {c v:Nat} (hv:v<cl.length) (h:nth cl v=c):fclN cl c<cl.length∧nth cl (fclN cl c)=c∧∀w,w<fclN cl c→nth cl w≠c:=by
 unfold fclN;rcases minF (fun v=>decide (nth cl v=(c:Int))) cl.length 0 with ⟨_,h1⟩ | ⟨t,h1,h2,h3,h4,h5⟩
 ·have:=h1 v (by omega) (by omega);rw[decide_eq_true h]at this;cases this
 ·rw[h1,Int.toNat_natCast];exact ⟨by omega,of_decide_eq_true h4,fun w hw=>of_decide_eq_false (h5 w (by omega) hw)⟩
def sndB (T:List (List Int)) (cl:List Int) (r f c:Nat):Bool:=decide (prcT T (fclN cl c)=f)&&decide (rndT T (fclN cl c)=r)
theorem xb {T:List (List Int)} {cl:List Int} {r f c:Nat}:sndB T cl r f c=true↔prcT T (fclN cl c)=f∧rndT T (fclN cl c)=r:=by unfold sndB;rw[Bool.and_eq_true,decide_eq_true_iff,decide_eq_true_iff]
def eqC (T:List (List Int)) (cl:List Int) (t c d:Nat):Bool:=eqP T (nth cl) t (fclN cl c) (fclN cl d)
def keyC (T:List (List Int)) (cl:List Int) (r f t c:Nat):Nat:=(minT (fun d=>sndB T cl r f d&&eqC T cl t c d) 0 (c+1)).toNat
def Used (T:List (List Int)) (cl:List Int) (m:Nat):Prop:=cl.length=T.length∧∀c,c<m→∃v,v<T.length∧nth cl v=(c:Nat)
theorem Used.first {T:List (List Int)} {cl:List Int} {m c:Nat} (h:Used T cl m) (hc:c<m):fclN cl c<T.length∧nth cl (fclN cl c)=c:=by
 obtain ⟨v,hv,h1⟩:=h.2 c hc;obtain ⟨a,b,_⟩:=QD (by rw[h.1];exact hv) h1;exact ⟨by rw[←h.1];exact a,b⟩
section
variable {N K:Nat} {T:List (List Int)} {cl:List Int} {m r f t:Nat}
theorem Xw (hn:T.Nodup) (c:Nat):eqC T cl t c c=true:=zfB hn _ _ _
theorem Zj {c d:Nat} (h:eqC T cl t c d=true):eqC T cl t d c=true:=zeY h
theorem Zz (hT:TabOK N K T) (hu:Used T cl m) {c d e:Nat} (hc:c<m) (he:e<m) (sc:sndB T cl r f c=true) (sd:sndB T cl r f d=true) (se:sndB T cl r f e=true) (h:eqC T cl t c d=true) (h':eqC T cl t d e=true):eqC T cl t c e=true:=
 zdn hT (hu.first hc).1 (hu.first he).1 (by rw[(xb.1 sc).1,(xb.1 sd).1]) (by rw[(xb.1 sd).1,(xb.1 se).1]) h h'
theorem xu (hn:T.Nodup) {c:Nat} (sc:sndB T cl r f c=true):keyC T cl r f t c≤c∧sndB T cl r f (keyC T cl r f t c)=true∧eqC T cl t c (keyC T cl r f t c)=true∧∀d,d<keyC T cl r f t c→¬(sndB T cl r f d=true∧eqC T cl t c d=true):=by
 unfold keyC;rcases minF (fun d=>sndB T cl r f d&&eqC T cl t c d) (c+1) 0 with ⟨_,h⟩ | ⟨x,h1,h2,h3,h4,h5⟩
 ·have:=h c (by omega) (by omega);rw[sc,Xw hn]at this;cases this
 ·rw[h1,Int.toNat_natCast];rw[Bool.and_eq_true]at h4;refine ⟨by omega,h4.1,h4.2,fun d hd hh=>?_⟩;have:=h5 d (by omega) hd;rw[hh.1,hh.2]at this;cases this
theorem YB (hT:TabOK N K T) (hn:T.Nodup) (hu:Used T cl m) {c d:Nat} (hc:c<m) (hd:d<m) (sc:sndB T cl r f c=true) (sd:sndB T cl r f d=true):keyC T cl r f t c=keyC T cl r f t d↔eqC T cl t c d=true:=by
 obtain ⟨a1,a2,a3,a4⟩:=xu (t:=t) hn sc;obtain ⟨b1,b2,b3,b4⟩:=xu (t:=t) hn sd;constructor
 ·intro h;rw[←h]at b3 b2;exact Zz hT hu hc hd sc b2 sd a3 (Zj b3)
 ·intro h;have h1:¬keyC T cl r f t d<keyC T cl r f t c:=fun hlt=>a4 _ hlt ⟨b2,Zz hT hu hc (by omega) sc sd b2 h b3⟩;have h2:¬keyC T cl r f t c<keyC T cl r f t d:=fun hlt=>b4 _ hlt ⟨a2,Zz hT hu hd (by omega) sd sc a2 (Zj h) a3⟩;omega
end
def symK (T:List (List Int)) (cl:List Int) (r f t k:Nat):List Nat:=((List.range k).filter (sndB T cl r f)).map (keyC T cl r f t)
theorem Yj (T:List (List Int)) (cl:List Int) (r f t k:Nat):symK T cl r f t (k+1)=symK T cl r f t k++if sndB T cl r f k=true then [keyC T cl r f t k] else []:=by
 unfold symK;rw[List.range_succ,List.filter_append,List.map_append,List.filter_cons];cases sndB T cl r f k<;>simp
theorem yW {T:List (List Int)} {cl:List Int} {r f t k x:Nat}:x∈symK T cl r f t k↔∃c,c<k∧sndB T cl r f c=true∧keyC T cl r f t c=x:=by
 unfold symK;simp only[List.mem_map,List.mem_filter,List.mem_range];constructor
 ·rintro ⟨c,⟨h1,h2⟩,h3⟩;exact ⟨c,h1,h2,h3⟩
 ·rintro ⟨c,h1,h2,h3⟩;exact ⟨c,⟨h1,h2⟩,h3⟩
def symV (T:List (List Int)) (cl:List Int) (r f t c:Nat):Int:=if sndB T cl r f c=true then (lab (symK T cl r f t (c+1)) (keyC T cl r f t c):Int) else -1
def symL (T:List (List Int)) (cl:List Int) (r f t m:Nat):List Int:=(List.range m).map (symV T cl r f t)
def manyN (T:List (List Int)) (cl:List Int) (r f t m:Nat):Nat:=(firsts (symK T cl r f t m)).length
theorem yB (T:List (List Int)) (cl:List Int) (r f t m:Nat):(symL T cl r f t m).length=m:=by simp[symL]
theorem Xh {l:List Nat} {x:Nat} (h:x∈l) (r:List Nat):lab (l++r) x=lab l x:=by
 induction r generalizing l with
 | nil=>rw[List.append_nil]
 | cons a r ih=>
  rw[show l++a::r=(l++[a])++r by simp,ih (List.mem_append_left _ h),zb5 h]
theorem qS (T:List (List Int)) (cl:List Int) (r f t:Nat) {k:Nat}:∀j,∃x,symK T cl r f t (k+j)=symK T cl r f t k++x
 | 0=>⟨[],by simp⟩
 | j+1=>by
  obtain ⟨x,hx⟩:=qS T cl r f t (k:=k) j;rw[show k+(j+1)=(k+j)+1 from rfl,Yj,hx];exact ⟨_,List.append_assoc ..⟩
end Go.Proofs.YtiabbjolepnjkaaGreat
namespace Go.Proofs.YtiabbjolepnjkaaGreat
section
variable {N K:Nat} {T:List (List Int)} {cl:List Int} {m r f t:Nat}
theorem QV (hT:TabOK N K T) (hn:T.Nodup) (hu:Used T cl m) {c d:Nat} (hc:c≤m) (h:d∈firsts (symK T cl r f t c)):d<c∧sndB T cl r f d=true∧keyC T cl r f t d=d:=by
 obtain ⟨e,he,se,hk⟩:=yW.1 (zV.1 h);obtain ⟨a1,a2,a3,_⟩:=xu (t:=t) hn se;rw[hk]at a1 a2 a3;refine ⟨by omega,a2,?_⟩;have:=(YB hT hn hu (by omega) (by omega) se a2).2 a3;rw[←this,hk]
theorem zez (hT:TabOK N K T) (hn:T.Nodup) (hu:Used T cl m) {c d:Nat} (hc:c<m) (sc:sndB T cl r f c=true) (h:d∈firsts (symK T cl r f t c)):eqC T cl t d c=true↔d=keyC T cl r f t c:=by
 obtain ⟨h1,h2,h3⟩:=QV hT hn hu (by omega) h;rw[←YB hT hn hu (by omega) hc h2 sc,h3]
theorem qX (hT:TabOK N K T) (hn:T.Nodup) (hu:Used T cl m) {c:Nat} (hc:c<m) (sc:sndB T cl r f c=true):
  (keyC T cl r f t c∈firsts (symK T cl r f t c)∧firsts (symK T cl r f t (c+1))=firsts (symK T cl r f t c)∧symV T cl r f t c=(firsts (symK T cl r f t c)).idxOf (keyC T cl r f t c))∨
  (keyC T cl r f t c=c∧c∉firsts (symK T cl r f t c)∧firsts (symK T cl r f t (c+1))=firsts (symK T cl r f t c)++[c]∧symV T cl r f t c=(firsts (symK T cl r f t c)).length):=by
 obtain ⟨a1,a2,a3,_⟩:=xu (t:=t) hn sc;have hs:=Yj T cl r f t c;rw[if_pos sc]at hs;by_cases hm:keyC T cl r f t c∈symK T cl r f t c
 ·left;refine ⟨zV.2 hm,by rw[hs,zcl hm],?_⟩;unfold symV;rw[if_pos sc,hs,zb5 hm];rfl
 ·right;have hk:keyC T cl r f t c=c:=by
   apply Decidable.byContradiction;intro hne;have hlt:keyC T cl r f t c<c:=by omega
   have:=(YB hT hn hu hc (by omega) sc a2).2 a3;exact hm (yW.2 ⟨keyC T cl r f t c,hlt,a2,this.symm⟩)
  refine ⟨hk,fun h=>hm (by rw[hk];exact zV.1 h),by rw[hs,zdd hm,hk],?_⟩;unfold symV;rw[if_pos sc,hs,zgx hm]
theorem Zy {c:Nat} (sc:sndB T cl r f c=false):firsts (symK T cl r f t (c+1))=firsts (symK T cl r f t c)∧symV T cl r f t c= -1:=by
 have hs:=Yj T cl r f t c;rw[sc,if_neg (by simp),List.append_nil]at hs;exact ⟨by rw[hs],by unfold symV;rw[sc,if_neg (by simp)]⟩
theorem qg (hT:TabOK N K T) (hn:T.Nodup) (hu:Used T cl m) {c:Nat} (hc:c<m): -1≤symV T cl r f t c∧symV T cl r f t c<manyN T cl r f t m∧(0≤symV T cl r f t c↔sndB T cl r f c=true):=by
 cases sc:sndB T cl r f c with
 | false=>rw[(Zy (t:=t) sc).2];refine ⟨by omega,by omega,?_⟩;simp
 | true=>
  have h1:symV T cl r f t c=(lab (symK T cl r f t (c+1)) (keyC T cl r f t c):Int):=by unfold symV;rw[if_pos sc]
  obtain ⟨x,hx⟩:=qS T cl r f t (k:=c+1) (m - (c+1));rw[show c+1+(m - (c+1))=m by omega]at hx;have hk:keyC T cl r f t c∈symK T cl r f t (c+1):=yW.2 ⟨c,by omega,sc,rfl⟩;have h2:=Xh hk x;rw[←hx]at h2;have h3:=zg0 (yW.2 ⟨c,hc,sc,rfl⟩:keyC T cl r f t c∈symK T cl r f t m);unfold manyN;rw[h1,←h2];refine ⟨by omega,by omega,by simp⟩
end
def Enough (T:List (List Int)) (cl sy:List Int) (t:Nat):Prop:=∀a b,a<sy.length→b<a→0≤nth sy a→nth sy a=nth sy b→eqC T cl t a b=true
theorem zcy {N K:Nat} {T:List (List Int)} {cl sy:List Int} {r f t:Nat} (hT:TabOK N K T) (hn:T.Nodup) (hu:Used T cl sy.length) (hs:∀c,c<sy.length→0≤nth sy c→sndB T cl r f c=true):
  Enough T cl sy t↔∀c,c<sy.length→0≤nth sy c→eqC T cl t (fstC sy c) c=true:=by
 constructor
 ·intro h c hc h0;obtain ⟨a1,a2,_⟩:=qN sy c;by_cases e:fstC sy c=c
  ·rw[e];exact Xw hn _
  ·exact Zj (h c (fstC sy c) hc (by omega) h0 a2.symm)
 ·intro h a b ha hb h0 he;have h1:=h a ha h0;have h2:=h b (by omega) (by omega);rw[←zfZ he]at h2;obtain ⟨x1,x2,_⟩:=qN sy a;have sx:sndB T cl r f (fstC sy a)=true:=hs (fstC sy a) (by omega) (by rw[x2];exact h0);exact Zz hT hu ha (by omega:b<sy.length) (hs a ha h0) sx (hs b (by omega) (by omega)) (Zj h1) h2
end Go.Proofs.YtiabbjolepnjkaaGreat
namespace Go.Proofs.YtiabbjolepnjkaaGreat
section
variable {N K:Nat} {T:List (List Int)} {cl:List Int} {m r f t:Nat}
theorem ZF {c:Nat} (sc:sndB T cl r f c=false):manyN T cl r f t (c+1)=manyN T cl r f t c:=by
 unfold manyN;rw[(Zy (t:=t) sc).1]
theorem Zs:manyN T cl r f t 0=0:=rfl
end
def widN (n:Nat):Nat:=if n≤1 then 0 else Nat.log2 (n - 1)+1
theorem zbU (n:Nat):n≤2 ^ widN n∧∀b,b<widN n→2 ^ b<n:=by
 unfold widN;by_cases h:n≤1
 ·rw[if_pos h];exact ⟨by simpa using h,fun b hb=>absurd hb (by omega)⟩
 ·rw[if_neg h];have h1:n - 1<2 ^ (Nat.log2 (n - 1)+1):=Nat.lt_log2_self;have h2:2 ^ Nat.log2 (n - 1)≤n - 1:=Nat.log2_self_le (by omega);refine ⟨by omega,fun b hb=>?_⟩;have h3:2 ^ b≤2 ^ Nat.log2 (n - 1):=Nat.pow_le_pow_right (by decide) (by omega);omega
end Go.Proofs.YtiabbjolepnjkaaGreat
namespace Go.Proofs.YtiabbjolepnjkaaGreat
section
variable {N K:Nat} {T:List (List Int)} {cl:List Int} {m r f t:Nat}
theorem zcw (hT:TabOK N K T) (hn:T.Nodup) (hu:Used T cl m) {c:Nat} (hc:c<m):manyN T cl r f t (c+1)=manyN T cl r f t c∨(sndB T cl r f c=true∧manyN T cl r f t (c+1)=manyN T cl r f t c+1∧symV T cl r f t c=(manyN T cl r f t c:Int)):=by
 cases sc:sndB T cl r f c with
 | false=>exact .inl (ZF sc)
 | true=>
  rcases qX (t:=t) hT hn hu hc sc with ⟨h1,h2,h3⟩ | ⟨h1,h2,h3,h4⟩
  ·left;unfold manyN;rw[h2]
  ·right;unfold manyN;rw[h3,h4];simp
end
end Go.Proofs.YtiabbjolepnjkaaGreat
namespace Go.Proofs.YtiabbjolepnjkaaGreat
open Go.RowKit Go.Shelf
attribute [local go_sem ↓] Go.wp_at_zero Go.wp_at_succ
theorem Q0 (w:World) (n:Nat):w.grownBy (w.drewN n) none:=⟨rfl,rfl,rfl,Nat.le_refl _,fun _ _ _=>rfl⟩
theorem QW.grown {w w':World} (h:QW w w'):w.grownBy w' none:=by obtain ⟨n,rfl⟩:=h;exact Q0 w n
theorem ze3 {β:Type} {B:Nat} {J:β→World→Prop} (hJ:AbidesFrom B J) {s:β} {W W':World} (h:J s W) (hq:QW W W'):J s W':=hJ s W W' none h hq.grown (fun r e=>by cases e)
end Go.Proofs.YtiabbjolepnjkaaGreat
