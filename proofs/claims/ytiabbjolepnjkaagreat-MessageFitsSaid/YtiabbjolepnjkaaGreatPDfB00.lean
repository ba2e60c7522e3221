/- Part of the proof that the laws answer true for every input. -/
import Derived.Test.YtiabbjolepnjkaaGreatPDfA24
set_option linter.unusedSimpArgs false
set_option linter.unnecessarySimpa false
set_option linter.unusedVariables false
set_option maxRecDepth 100000
set_option maxHeartbeats 40000000
namespace Go.Proofs.YtiabbjolepnjkaaGreat
open Go.RowKit Go.Maps Go.Shelf
attribute [local go_sem ↓] Go.wp_at_zero Go.wp_at_succ
attribute [local go_sem] Oper.semAt_some
theorem SysV.block {S:Nat→Prop} {w:World} {v:Value} {s:SysF} (h:SysV S w v s):SysV (fun b=>S b∧b<w.heap.size) w v s:=by
 obtain ⟨vc,vs,vt,vx,e,h1,h2,h3,h4⟩:=h;exact ⟨vc,vs,vt,vx,e,h1.block,h2.block,h3.block,h4.block⟩
end Go.Proofs.YtiabbjolepnjkaaGreat
namespace Go.Proofs.YtiabbjolepnjkaaGreat
open Go.RowKit
theorem Xy {S:Nat→Prop} {w:World} {v:Value} {l:List Int} (h:Ints S w v l):
  Calls Tryz.prog 81 #[v] w (Post w fun _ r=>r=.int .i64 (checkS l)):=by
 obtain ⟨a,cap,rfl,ha,h1,h2,hc,hf⟩:=h;unfold maxLen at h2;obtain ⟨i0,hi,hz0,hz1,hz2⟩:=info_parts zI;have hix:=zL Tryz.underlying36 hi hz1 ha;clear hi hz0 hz1 hz2;go_enter Tryz.func81,Tryz.ntmps81;by_cases hbig:65536<l.length
 ·go_wp2;go_ret;exact .same (by simp[checkS,hbig])
 ·go_wp2;go_loop [3,4] (fun n i=>∃k:Nat,∃m:Int,k≤l.length∧0≤m∧m≤k∧i=.int .i64 k∧n=.int .i64 m∧checkTo (l.drop k) m=checkTo l 0) (fun _ i=>l.length - (intOf i).toNat)
  case atStart=>exact ⟨0,0,by omega,by omega,by omega,rfl,rfl,rfl⟩
  case round=>
   obtain ⟨k,m,hk,hm0,hmk,rfl,rfl,hrel⟩:=hrel;have H:=zhd hrel;clear hrel;by_cases hlt:k<l.length
   ·have HS:=zhd (Z2 hlt);go_wp2
    ·go_ret;exact .same (qB hbig H.out (by rw[HS.out,checkTo,if_pos ‹_›]))
    ·go_ret;exact .same (qB hbig H.out (by rw[HS.out,checkTo,if_neg (by omega),if_pos ‹_›]))
    ·go_round
     case rel=>exact ⟨k+1,m+1,by omega,by omega,by omega,by go_num,rfl,by rw[←H.out,HS.out,checkTo,if_neg (by omega),if_neg (by omega),if_pos (beq_iff_eq.1 ‹_›)]⟩
     case measure=>simp[intOf];omega
    ·go_round
     case rel=>exact ⟨k+1,m,by omega,by omega,by omega,by go_num,rfl,by rw[←H.out,HS.out,checkTo,if_neg (by omega),if_neg (by omega),if_neg (beq_eq_false_iff_ne.1 ‹_›)]⟩
     case measure=>simp[intOf];omega
   ·go_wp2;go_ret;exact .same (qB hbig H.out (by rw[List.drop_of_length_le (by omega),checkTo]))
end Go.Proofs.YtiabbjolepnjkaaGreat
namespace Go.Proofs.YtiabbjolepnjkaaGreat
def folP (T:List (List Int)) (lab:Nat→Int) (t v w:Nat):Bool:=(List.range T.length).all fun u=> !(decide (prcT T u=t)&&hrsB T u v)||(decide (0≤repT T u v w)&&decide (lab (repT T u v w).toNat=lab u))
theorem qP {T:List (List Int)} {lab:Nat→Int} {t v w:Nat}:folP T lab t v w=true↔∀u,u<T.length→prcT T u=t→hrsB T u v=true→0≤repT T u v w∧lab (repT T u v w).toNat=lab u:=by
 unfold folP;simp only[List.all_eq_true,List.mem_range,Bool.or_eq_true,Bool.not_eq_true',Bool.and_eq_true,decide_eq_true_iff];constructor
 ·intro h u hu h0 h1;rcases h u hu with h2 | h2
  ·rw[decide_eq_true h0,h1]at h2;cases h2
  ·exact h2
 ·intro h u hu;by_cases h0:prcT T u=t
  ·cases h1:hrsB T u v with
   | false=>left;simp
   | true=>exact .inr (h u hu h0 h1)
  ·left;rw[decide_eq_false h0];rfl
theorem zcg {T:List (List Int)} (hn:T.Nodup) (lab:Nat→Int) (t v:Nat):folP T lab t v v=true:=qP.2 fun u hu _ h=>by
 rw[Qo hn hu h];exact ⟨by omega,by rw[Int.toNat_natCast]⟩
theorem Zl {N K:Nat} {T:List (List Int)} (hT:TabOK N K T) {lab:Nat→Int} {t v w x:Nat} (hv:v<T.length) (hp:prcT T v=prcT T w) (h:folP T lab t v w=true) (h':folP T lab t w x=true):folP T lab t v x=true:=qP.2 fun u hu ht hh=>by
 obtain ⟨h1,h2⟩:=qP.1 h u hu ht hh;obtain ⟨y,hy⟩:∃y:Nat,repT T u v w=y:=⟨(repT T u v w).toNat,by omega⟩;obtain ⟨h3,h4,h5⟩:=zap (b:=(x:Int)) hT hu hv hp hh hy;obtain ⟨_,l2,_⟩:=zd8 hT hu hv hh hy;obtain ⟨h6,h7⟩:=qP.1 h' y h3 (by rw[l2,ht]) h4;rw[hy,Int.toNat_natCast]at h2;rw[h5]at h6 h7;exact ⟨h6,by rw[h7,h2]⟩
def eqP (T:List (List Int)) (lab:Nat→Int) (t v w:Nat):Bool:=folP T lab t v w&&folP T lab t w v
theorem zal {T:List (List Int)} {lab:Nat→Int} {t v w:Nat}:eqP T lab t v w=true↔folP T lab t v w=true∧folP T lab t w v=true:=by unfold eqP;rw[Bool.and_eq_true]
theorem zhm {T:List (List Int)} (hn:T.Nodup) (lab:Nat→Int) (t v:Nat):eqP T lab t v v=true:=zal.2 ⟨zcg hn _ _ _,zcg hn _ _ _⟩
theorem zhK {T:List (List Int)} {lab:Nat→Int} {t v w:Nat} (h:eqP T lab t v w=true):eqP T lab t w v=true:=by
 rw[zal]at h ⊢;exact h.symm
theorem zgx {N K:Nat} {T:List (List Int)} (hT:TabOK N K T) {lab:Nat→Int} {t v w x:Nat} (hv:v<T.length) (hx:x<T.length) (hp:prcT T v=prcT T w) (hp':prcT T w=prcT T x) (h:eqP T lab t v w=true) (h':eqP T lab t w x=true):eqP T lab t v x=true:=by
 rw[zal]at h h' ⊢;exact ⟨Zl hT hv hp h.1 h'.1,Zl hT hx hp'.symm h'.2 h.2⟩
def fclN (cl:List Int) (c:Nat):Nat:=(minT (fun v=>decide (nth cl v=(c:Int))) 0 cl.length).toNat
theorem zaT {cl:List Int} {c v:Nat} (hv:v<cl.length) (h:nth cl v=c):fclN cl c<cl.length∧nth cl (fclN cl c)=c∧∀w,w<fclN cl c→nth cl w≠c:=by
 unfold fclN;rcases minF (fun v=>decide (nth cl v=(c:Int))) cl.length 0 with ⟨_,h1⟩ | ⟨t,h1,h2,h3,h4,h5⟩
 ·have:=h1 v (by omega) (by omega);rw[decide_eq_true h]at this;cases this
 ·rw[h1,Int.toNat_natCast];exact ⟨by omega,of_decide_eq_true h4,fun w hw=>of_decide_eq_false (h5 w (by omega) hw)⟩
def sndB (T:List (List Int)) (cl:List Int) (r f c:Nat):Bool:=decide (prcT T (fclN cl c)=f)&&decide (rndT T (fclN cl c)=r)
theorem yZ {T:List (List Int)} {cl:List Int} {r f c:Nat}:sndB T cl r f c=true↔prcT T (fclN cl c)=f∧rndT T (fclN cl c)=r:=by unfold sndB;rw[Bool.and_eq_true,decide_eq_true_iff,decide_eq_true_iff]
def eqC (T:List (List Int)) (cl:List Int) (t c d:Nat):Bool:=eqP T (nth cl) t (fclN cl c) (fclN cl d)
def keyC (T:List (List Int)) (cl:List Int) (r f t c:Nat):Nat:=(minT (fun d=>sndB T cl r f d&&eqC T cl t c d) 0 (c+1)).toNat
def Used (T:List (List Int)) (cl:List Int) (m:Nat):Prop:=cl.length=T.length∧∀c,c<m→∃v,v<T.length∧nth cl v=(c:Nat)
theorem Used.first {T:List (List Int)} {cl:List Int} {m c:Nat} (h:Used T cl m) (hc:c<m):fclN cl c<T.length∧nth cl (fclN cl c)=c:=by
 obtain ⟨v,hv,h1⟩:=h.2 c hc;obtain ⟨a,b,_⟩:=zaT (by rw[h.1];exact hv) h1;exact ⟨by rw[←h.1];exact a,b⟩
section
variable {N K:Nat} {T:List (List Int)} {cl:List Int} {m r f t:Nat}
theorem zar (hn:T.Nodup) (c:Nat):eqC T cl t c c=true:=zhm hn _ _ _
theorem Ql {c d:Nat} (h:eqC T cl t c d=true):eqC T cl t d c=true:=zhK h
theorem Yk (hT:TabOK N K T) (hu:Used T cl m) {c d e:Nat} (hc:c<m) (he:e<m) (sc:sndB T cl r f c=true) (sd:sndB T cl r f d=true) (se:sndB T cl r f e=true) (h:eqC T cl t c d=true) (h':eqC T cl t d e=true):eqC T cl t c e=true:=
 zgx hT (hu.first hc).1 (hu.first he).1 (by rw[(yZ.1 sc).1,(yZ.1 sd).1]) (by rw[(yZ.1 sd).1,(yZ.1 se).1]) h h'
theorem Z4 (hn:T.Nodup) {c:Nat} (sc:sndB T cl r f c=true):keyC T cl r f t c≤c∧sndB T cl r f (keyC T cl r f t c)=true∧eqC T cl t c (keyC T cl r f t c)=true∧∀d,d<keyC T cl r f t c→¬(sndB T cl r f d=true∧eqC T cl t c d=true):=by
 unfold keyC;rcases minF (fun d=>sndB T cl r f d&&eqC T cl t c d) (c+1) 0 with ⟨_,h⟩ | ⟨x,h1,h2,h3,h4,h5⟩
 ·have:=h c (by omega) (by omega);rw[sc,zar hn]at this;cases this
 ·rw[h1,Int.toNat_natCast];rw[Bool.and_eq_true]at h4;refine ⟨by omega,h4.1,h4.2,fun d hd hh=>?_⟩;have:=h5 d (by omega) hd;rw[hh.1,hh.2]at this;cases this
theorem zau (hT:TabOK N K T) (hn:T.Nodup) (hu:Used T cl m) {c d:Nat} (hc:c<m) (hd:d<m) (sc:sndB T cl r f c=true) (sd:sndB T cl r f d=true):keyC T cl r f t c=keyC T cl r f t d↔eqC T cl t c d=true:=by
 obtain ⟨a1,a2,a3,a4⟩:=Z4 (t:=t) hn sc;obtain ⟨b1,b2,b3,b4⟩:=Z4 (t:=t) hn sd;constructor
 ·intro h;rw[←h]at b3 b2;exact Yk hT hu hc hd sc b2 sd a3 (Ql b3)
 ·intro h;have h1:¬keyC T cl r f t d<keyC T cl r f t c:=fun hlt=>a4 _ hlt ⟨b2,Yk hT hu hc (by omega) sc sd b2 h b3⟩;have h2:¬keyC T cl r f t c<keyC T cl r f t d:=fun hlt=>b4 _ hlt ⟨a2,Yk hT hu hd (by omega) sd sc a2 (Ql h) a3⟩;omega
end
def symK (T:List (List Int)) (cl:List Int) (r f t k:Nat):List Nat:=((List.range k).filter (sndB T cl r f)).map (keyC T cl r f t)
theorem Q4 (T:List (List Int)) (cl:List Int) (r f t k:Nat):symK T cl r f t (k+1)=symK T cl r f t k++if sndB T cl r f k=true then [keyC T cl r f t k] else []:=by
 unfold symK;rw[List.range_succ,List.filter_append,List.map_append,List.filter_cons];cases sndB T cl r f k<;>simp
theorem qJ {T:List (List Int)} {cl:List Int} {r f t k x:Nat}:x∈symK T cl r f t k↔∃c,c<k∧sndB T cl r f c=true∧keyC T cl r f t c=x:=by
 unfold symK;simp only[List.mem_map,List.mem_filter,List.mem_range];constructor
 ·rintro ⟨c,⟨h1,h2⟩,h3⟩;exact ⟨c,h1,h2,h3⟩
 ·rintro ⟨c,h1,h2,h3⟩;exact ⟨c,⟨h1,h2⟩,h3⟩
def symV (T:List (List Int)) (cl:List Int) (r f t c:Nat):Int:=if sndB T cl r f c=true then (lab (symK T cl r f t (c+1)) (keyC T cl r f t c):Int) else -1
def symL (T:List (List Int)) (cl:List Int) (r f t m:Nat):List Int:=(List.range m).map (symV T cl r f t)
def manyN (T:List (List Int)) (cl:List Int) (r f t m:Nat):Nat:=(firsts (symK T cl r f t m)).length
theorem yS (T:List (List Int)) (cl:List Int) (r f t m:Nat):(symL T cl r f t m).length=m:=by simp[symL]
theorem YI (T:List (List Int)) (cl:List Int) (r f t:Nat) {m c:Nat} (h:c<m):nth (symL T cl r f t m) c=symV T cl r f t c:=by simp[symL,nth,h]
theorem zaJ {l:List Nat} {x:Nat} (h:x∈l) (r:List Nat):lab (l++r) x=lab l x:=by
 induction r generalizing l with
 | nil=>rw[List.append_nil]
 | cons a r ih=>
  rw[show l++a::r=(l++[a])++r by simp,ih (List.mem_append_left _ h),qN h]
theorem xB (T:List (List Int)) (cl:List Int) (r f t:Nat) {k:Nat}:∀j,∃x,symK T cl r f t (k+j)=symK T cl r f t k++x
 | 0=>⟨[],by simp⟩
 | j+1=>by
  obtain ⟨x,hx⟩:=xB T cl r f t (k:=k) j;rw[show k+(j+1)=(k+j)+1 from rfl,Q4,hx];exact ⟨_,List.append_assoc ..⟩
theorem zcd {N K:Nat} {T:List (List Int)} {cl:List Int} {m r f t:Nat} (hT:TabOK N K T) (hn:T.Nodup) (hu:Used T cl m) {c d:Nat} (hc:c<m) (hd:d<m) (sc:sndB T cl r f c=true) (sd:sndB T cl r f d=true):symV T cl r f t c=symV T cl r f t d↔eqC T cl t c d=true:=by
 rw[←zau hT hn hu hc hd sc sd];unfold symV;rw[if_pos sc,if_pos sd];have hc1:keyC T cl r f t c∈symK T cl r f t (c+1):=qJ.2 ⟨c,by omega,sc,rfl⟩;have hd1:keyC T cl r f t d∈symK T cl r f t (d+1):=qJ.2 ⟨d,by omega,sd,rfl⟩;obtain ⟨x,hx⟩:=xB T cl r f t (k:=c+1) (m - (c+1));obtain ⟨y,hy⟩:=xB T cl r f t (k:=d+1) (m - (d+1));rw[show c+1+(m - (c+1))=m by omega]at hx;rw[show d+1+(m - (d+1))=m by omega]at hy;have e1:lab (symK T cl r f t (c+1)) (keyC T cl r f t c)=lab (symK T cl r f t m) (keyC T cl r f t c):=by rw[hx];exact (zaJ hc1 x).symm
 have e2:lab (symK T cl r f t (d+1)) (keyC T cl r f t d)=lab (symK T cl r f t m) (keyC T cl r f t d):=by rw[hy];exact (zaJ hd1 y).symm
 have hcm:keyC T cl r f t c∈symK T cl r f t m:=qJ.2 ⟨c,hc,sc,rfl⟩;have hdm:keyC T cl r f t d∈symK T cl r f t m:=qJ.2 ⟨d,hd,sd,rfl⟩;rw[e1,e2];constructor
 ·intro h;exact zfK hcm hdm (by omega)
 ·intro h;rw[h]
end Go.Proofs.YtiabbjolepnjkaaGreat
namespace Go.Proofs.YtiabbjolepnjkaaGreat
section
variable {N K:Nat} {T:List (List Int)} {cl:List Int} {m r f t:Nat}
theorem zdR (hT:TabOK N K T) (hn:T.Nodup) (hu:Used T cl m) {c d:Nat} (hc:c≤m) (h:d∈firsts (symK T cl r f t c)):d<c∧sndB T cl r f d=true∧keyC T cl r f t d=d:=by
 obtain ⟨e,he,se,hk⟩:=qJ.1 (yc.1 h);obtain ⟨a1,a2,a3,_⟩:=Z4 (t:=t) hn se;rw[hk]at a1 a2 a3;refine ⟨by omega,a2,?_⟩;have:=(zau hT hn hu (by omega) (by omega) se a2).2 a3;rw[←this,hk]
theorem zi9 (hT:TabOK N K T) (hn:T.Nodup) (hu:Used T cl m) {c d:Nat} (hc:c<m) (sc:sndB T cl r f c=true) (h:d∈firsts (symK T cl r f t c)):eqC T cl t d c=true↔d=keyC T cl r f t c:=by
 obtain ⟨h1,h2,h3⟩:=zdR hT hn hu (by omega) h;rw[←zau hT hn hu (by omega) hc h2 sc,h3]
theorem zcm (hT:TabOK N K T) (hn:T.Nodup) (hu:Used T cl m) {c:Nat} (hc:c<m) (sc:sndB T cl r f c=true):
  (keyC T cl r f t c∈firsts (symK T cl r f t c)∧firsts (symK T cl r f t (c+1))=firsts (symK T cl r f t c)∧symV T cl r f t c=(firsts (symK T cl r f t c)).idxOf (keyC T cl r f t c))∨
  (keyC T cl r f t c=c∧c∉firsts (symK T cl r f t c)∧firsts (symK T cl r f t (c+1))=firsts (symK T cl r f t c)++[c]∧symV T cl r f t c=(firsts (symK T cl r f t c)).length):=by
 obtain ⟨a1,a2,a3,_⟩:=Z4 (t:=t) hn sc;have hs:=Q4 T cl r f t c;rw[if_pos sc]at hs;by_cases hm:keyC T cl r f t c∈symK T cl r f t c
 ·left;refine ⟨yc.2 hm,by rw[hs,YE hm],?_⟩;unfold symV;rw[if_pos sc,hs,qN hm];rfl
 ·right;have hk:keyC T cl r f t c=c:=by
   apply Decidable.byContradiction;intro hne;have hlt:keyC T cl r f t c<c:=by omega
   have:=(zau hT hn hu hc (by omega) sc a2).2 a3;exact hm (qJ.2 ⟨keyC T cl r f t c,hlt,a2,this.symm⟩)
  refine ⟨hk,fun h=>hm (by rw[hk];exact yc.1 h),by rw[hs,YX hm,hk],?_⟩;unfold symV;rw[if_pos sc,hs,Q8 hm]
theorem zaS {c:Nat} (sc:sndB T cl r f c=false):firsts (symK T cl r f t (c+1))=firsts (symK T cl r f t c)∧symV T cl r f t c= -1:=by
 have hs:=Q4 T cl r f t c;rw[sc,if_neg (by simp),List.append_nil]at hs;exact ⟨by rw[hs],by unfold symV;rw[sc,if_neg (by simp)]⟩
theorem yE (hT:TabOK N K T) (hn:T.Nodup) (hu:Used T cl m) {c:Nat} (hc:c<m): -1≤symV T cl r f t c∧symV T cl r f t c<manyN T cl r f t m∧(0≤symV T cl r f t c↔sndB T cl r f c=true):=by
 cases sc:sndB T cl r f c with
 | false=>rw[(zaS (t:=t) sc).2];refine ⟨by omega,by omega,?_⟩;simp
 | true=>
  have h1:symV T cl r f t c=(lab (symK T cl r f t (c+1)) (keyC T cl r f t c):Int):=by unfold symV;rw[if_pos sc]
  obtain ⟨x,hx⟩:=xB T cl r f t (k:=c+1) (m - (c+1));rw[show c+1+(m - (c+1))=m by omega]at hx;have hk:keyC T cl r f t c∈symK T cl r f t (c+1):=qJ.2 ⟨c,by omega,sc,rfl⟩;have h2:=zaJ hk x;rw[←hx]at h2;have h3:=zbJ (qJ.2 ⟨c,hc,sc,rfl⟩:keyC T cl r f t c∈symK T cl r f t m);unfold manyN;rw[h1,←h2];refine ⟨by omega,by omega,by simp⟩
end
def Enough (T:List (List Int)) (cl sy:List Int) (t:Nat):Prop:=∀a b,a<sy.length→b<a→0≤nth sy a→nth sy a=nth sy b→eqC T cl t a b=true
theorem zew {N K:Nat} {T:List (List Int)} {cl sy:List Int} {r f t:Nat} (hT:TabOK N K T) (hn:T.Nodup) (hu:Used T cl sy.length) (hs:∀c,c<sy.length→0≤nth sy c→sndB T cl r f c=true):
  Enough T cl sy t↔∀c,c<sy.length→0≤nth sy c→eqC T cl t (fstC sy c) c=true:=by
 constructor
 ·intro h c hc h0;obtain ⟨a1,a2,_⟩:=qK sy c;by_cases e:fstC sy c=c
  ·rw[e];exact zar hn _
  ·exact Ql (h c (fstC sy c) hc (by omega) h0 a2.symm)
 ·intro h a b ha hb h0 he;have h1:=h a ha h0;have h2:=h b (by omega) (by omega);rw[←ziA he]at h2;obtain ⟨x1,x2,_⟩:=qK sy a;have sx:sndB T cl r f (fstC sy a)=true:=hs (fstC sy a) (by omega) (by rw[x2];exact h0);exact Yk hT hu ha (by omega:b<sy.length) (hs a ha h0) sx (hs b (by omega) (by omega)) (Ql h1) h2
end Go.Proofs.YtiabbjolepnjkaaGreat
namespace Go.Proofs.YtiabbjolepnjkaaGreat
section
variable {N K:Nat} {T:List (List Int)} {cl:List Int} {m r f t:Nat}
theorem zbF {c:Nat} (sc:sndB T cl r f c=false):manyN T cl r f t (c+1)=manyN T cl r f t c:=by
 unfold manyN;rw[(zaS (t:=t) sc).1]
theorem Yc:manyN T cl r f t 0=0:=rfl
end
def widN (n:Nat):Nat:=if n≤1 then 0 else Nat.log2 (n - 1)+1
theorem zhE (n:Nat):n≤2 ^ widN n∧∀b,b<widN n→2 ^ b<n:=by
 unfold widN;by_cases h:n≤1
 ·rw[if_pos h];exact ⟨by simpa using h,fun b hb=>absurd hb (by omega)⟩
 ·rw[if_neg h];have h1:n - 1<2 ^ (Nat.log2 (n - 1)+1):=Nat.lt_log2_self;have h2:2 ^ Nat.log2 (n - 1)≤n - 1:=Nat.log2_self_le (by omega);refine ⟨by omega,fun b hb=>?_⟩;have h3:2 ^ b≤2 ^ Nat.log2 (n - 1):=Nat.pow_le_pow_right (by decide) (by omega);omega
end Go.Proofs.YtiabbjolepnjkaaGreat
namespace Go.Proofs.YtiabbjolepnjkaaGreat
section
variable {N K:Nat} {T:List (List Int)} {cl:List Int} {m r f t:Nat}
theorem YF (hT:TabOK N K T) (hn:T.Nodup) (hu:Used T cl m) {c:Nat} (hc:c<m):manyN T cl r f t (c+1)=manyN T cl r f t c∨(sndB T cl r f c=true∧manyN T cl r f t (c+1)=manyN T cl r f t c+1∧symV T cl r f t c=(manyN T cl r f t c:Int)):=by
 cases sc:sndB T cl r f c with
 | false=>exact .inl (zbF sc)
 | true=>
  rcases zcm (t:=t) hT hn hu hc sc with ⟨h1,h2,h3⟩ | ⟨h1,h2,h3,h4⟩
  ·left;unfold manyN;rw[h2]
  ·right;unfold manyN;rw[h3,h4];simp
end
end Go.Proofs.YtiabbjolepnjkaaGreat
namespace Go.Proofs.YtiabbjolepnjkaaGreat
open Go.RowKit
attribute [local go_sem ↓] Go.wp_at_zero Go.wp_at_succ
def silL (s:SysF):List Int:=List.replicate s.tab.length (-1)
theorem zaI (s:SysF):(silL s).length=s.tab.length:=List.length_replicate ..
theorem QU {s:SysF} {v:Nat} (h:v<s.tab.length):nth (silL s) v= -1:=by simp[silL,nth,h]
theorem zdL {s:SysF} (h8:Moves8 s.p.st):ruleE s (silL s)=verE s:=by
 unfold ruleE;by_cases h0:verE s=0
 case neg=>rw[if_neg h0]
 rw[if_pos h0,h0];have hg:=qG h0 h8;have ho:1≤s.p.outs:=by have:=yR hg.pok.t;omega
 unfold formE;rw[if_pos (zaI s)];refine yG fun v hv=>?_;rw[zaI]at hv;unfold frmV;rw[QU hv,if_neg (by omega)];rcases hg.tab.bef hv with h1 | ⟨u,h1,h2⟩
 ·rw[if_neg (by omega)]
 ·rw[h2,Int.toNat_natCast,QU (by omega),if_neg (by omega)]
def mesE (s:SysF) (cl:List Int):Int:=if verE s=0 then chkQ s (silL s) cl else verE s
theorem zjE {s:SysF} (h8:Moves8 s.p.st) (cl:List Int):verQ s (silL s) cl=mesE s cl:=by
 unfold verQ mesE;rw[zdL h8]
def plcE (s:SysF) (cl:List Int) (r f t:Int):Int:=
 if mesE s cl=0 then (if r<0∨s.p.rounds≤r then 2 else if f<0∨s.tn≤f∨t<0∨s.tn≤t then 6 else if f=t then 11 else 0) else mesE s cl
theorem zd5 {s:SysF} {cl:List Int} (h:mesE s cl=0):verE s=0∧Good cl∧cl.length=s.tab.length∧fitB s.tab (silL s) cl=true:=by
 unfold mesE at h;by_cases h0:verE s=0
 case neg=>rw[if_neg h0]at h;exact absurd h h0
 rw[if_pos h0]at h;unfold chkQ at h;by_cases h1:checkS cl=0
 case neg=>rw[if_neg h1]at h;exact absurd h h1
 rw[if_pos h1]at h;by_cases h2:cl.length=s.tab.length
 case neg=>rw[if_neg h2]at h;cases h
 rw[if_pos h2]at h;cases h3:fitB s.tab (silL s) cl with
 | false=>rw[h3]at h;cases h
 | true=>exact ⟨h0,yf.1 h1,h2,rfl⟩
theorem ziG {s:SysF} {cl:List Int} {r f t:Int} (h:plcE s cl r f t=0):mesE s cl=0∧(0≤r∧r<s.p.rounds)∧(0≤f∧f<s.tn)∧(0≤t∧t<s.tn)∧f≠t:=by
 unfold plcE at h;by_cases h0:mesE s cl=0
 case neg=>rw[if_neg h0]at h;exact absurd h h0
 rw[if_pos h0]at h;by_cases h1:r<0∨s.p.rounds≤r
 ·rw[if_pos h1]at h;cases h
 rw[if_neg h1]at h;by_cases h2:f<0∨s.tn≤f∨t<0∨s.tn≤t
 ·rw[if_pos h2]at h;cases h
 rw[if_neg h2]at h;by_cases h3:f=t
 ·rw[if_pos h3]at h;cases h
 exact ⟨h0,by omega,by omega,by omega,h3⟩
end Go.Proofs.YtiabbjolepnjkaaGreat
namespace Go.Proofs.YtiabbjolepnjkaaGreat
def mK (cl:List Int) (k:Nat):Nat:=(numS (cl.take k)).toNat
def mN (cl:List Int):Nat:=(numS cl).toNat
theorem zgC (cl:List Int) (k:Nat):numS (cl.take k)=(mK cl k:Int):=by
 have:=yI (cl.take k);unfold mK;omega
theorem zdt (cl:List Int):mK cl 0=0:=by unfold mK;rw[List.take_zero];rfl
theorem zbc (cl:List Int):mK cl cl.length=mN cl:=by unfold mK mN;rw[List.take_length]
theorem ziI {cl:List Int} {k:Nat} (hk:k<cl.length):(mK cl (k+1):Int)=max (mK cl k:Int) (nth cl k+1):=by
 rw[←zgC,←zgC,show cl.take (k+1)=cl.take k++[nth cl k] by rw[yM hk];exact (List.take_append_getElem hk).symm,yX]
theorem zdn {cl:List Int}:∀{k w:Nat},k≤cl.length→w<k→nth cl w<mK cl k
 | 0,w,_,h=>by omega
 | k+1,w,hk,h=>by
  have hm:=ziI (cl:=cl) (k:=k) (by omega);by_cases e:w=k
  ·subst e;omega
  ·have:=zdn (cl:=cl) (k:=k) (w:=w) (by omega) (by omega);omega
theorem zgk {cl:List Int} (hg:Good cl) {k:Nat} (hk:k<cl.length):
  (nth cl k=mK cl k∧mK cl (k+1)=mK cl k+1∧fclN cl (mK cl k)=k)∨(nth cl k≠mK cl k∧mK cl (k+1)=mK cl k):=by
 have hm:=ziI hk;have h1:=hg.2 k hk;rw[zgC]at h1;by_cases e:nth cl k=mK cl k
 ·refine .inl ⟨e,by omega,?_⟩;obtain ⟨a,b,c⟩:=zaT hk e;rcases Nat.lt_trichotomy (fclN cl (mK cl k)) k with h | h | h
  ·have:=zdn (cl:=cl) (k:=k) (by omega) h;omega
  ·exact h
  ·exact absurd e (c k h)
 ·exact .inr ⟨e,by omega⟩
theorem zaU {cl:List Int} (hg:Good cl):∀{k:Nat},k≤cl.length→mK cl k≤k∧∀c,c<mK cl k→∃v,v<k∧nth cl v=(c:Nat)
 | 0,_=>⟨by rw[zdt];omega,fun c hc=>by rw[zdt]at hc;omega⟩
 | k+1,hk=>by
  obtain ⟨h0,h⟩:=zaU hg (k:=k) (by omega);rcases zgk hg (show k<cl.length by omega) with ⟨h1,h2,_⟩ | ⟨_,h2⟩
  ·refine ⟨by omega,fun c hc=>?_⟩;by_cases e:c=mK cl k
   ·exact ⟨k,by omega,by rw[e];exact h1⟩
   ·obtain ⟨v,hv,h3⟩:=h c (by omega);exact ⟨v,by omega,h3⟩
  ·refine ⟨by omega,fun c hc=>?_⟩;obtain ⟨v,hv,h3⟩:=h c (by omega);exact ⟨v,by omega,h3⟩
theorem yl {T:List (List Int)} {cl:List Int} (hg:Good cl) (hl:cl.length=T.length):Used T cl (mN cl):=⟨hl,fun c hc=>by
 rw[←zbc]at hc;obtain ⟨v,hv,h⟩:=(zaU hg (Nat.le_refl _)).2 c hc;exact ⟨v,by omega,h⟩⟩
theorem zdB {cl:List Int} (hg:Good cl):mN cl≤cl.length:=by
 rw[←zbc];exact (zaU hg (Nat.le_refl _)).1
theorem zfu {cl:List Int} (hg:Good cl) {v:Nat} (hv:v<cl.length):∃c:Nat,c<mN cl∧nth cl v=(c:Int):=by
 have h1:=zdn (cl:=cl) (Nat.le_refl _) hv;rw[zbc]at h1;have:=(hg.2 v hv).1;exact ⟨(nth cl v).toNat,by omega,by omega⟩
section
variable {N K:Nat} {T:List (List Int)} {cl:List Int} {m r f t:Nat}
theorem xP (hT:TabOK N K T) (hn:T.Nodup) (hu:Used T cl m):∀k,k≤m→manyN T cl r f t k≤k
 | 0,_=>by rw[Yc];omega
 | k+1,hk=>by
  have:=xP hT hn hu k (by omega);rcases YF (r:=r) (f:=f) (t:=t) hT hn hu (show k<m by omega) with h | ⟨_,h,_⟩<;>omega
theorem zjU (hT:TabOK N K T) (hn:T.Nodup) (hu:Used T cl m) (hm:m≤60000):∀k,k≤m→∀x∈symL T cl r f t k,WF x:=fun k hk x hx=>by
 unfold symL at hx;obtain ⟨c,hc,rfl⟩:=List.mem_map.1 hx;have hc:=List.mem_range.1 hc;have h1:=yE (r:=r) (f:=f) (t:=t) hT hn hu (show c<m by omega);have h2:=xP (r:=r) (f:=f) (t:=t) hT hn hu m (Nat.le_refl _);exact WF.small (by omega)
end
end Go.Proofs.YtiabbjolepnjkaaGreat
