/- Part of the proof that the laws answer true for every input. -/
import Derived.Test.YtiabbjolepnjkaaGreatPSaA22
set_option linter.unusedSimpArgs false
set_option linter.unnecessarySimpa false
set_option linter.unusedVariables false
set_option maxRecDepth 100000
set_option maxHeartbeats 40000000
namespace Go.Proofs.YtiabbjolepnjkaaGreat
open Go.RowKit
attribute [local go_sem ↓] Go.wp_at_zero Go.wp_at_succ
def chkQ (s:SysF) (ch cl:List Int):Int:=if checkS cl=0 then (if cl.length=s.tab.length then (if fitB s.tab ch cl then 0 else 18) else 15) else checkS cl
def verQ (s:SysF) (ch cl:List Int):Int:=if ruleE s ch=0 then chkQ s ch cl else ruleE s ch
end Go.Proofs.YtiabbjolepnjkaaGreat
namespace Go.Proofs.YtiabbjolepnjkaaGreat
def folP (T:List (List Int)) (lab:Nat→Int) (t v w:Nat):Bool:=(List.range T.length).all fun u=> !(decide (prcT T u=t)&&hrsB T u v)||(decide (0≤repT T u v w)&&decide (lab (repT T u v w).toNat=lab u))
theorem xb {T:List (List Int)} {lab:Nat→Int} {t v w:Nat}:folP T lab t v w=true↔∀u,u<T.length→prcT T u=t→hrsB T u v=true→0≤repT T u v w∧lab (repT T u v w).toNat=lab u:=by
 unfold folP;simp only[List.all_eq_true,List.mem_range,Bool.or_eq_true,Bool.not_eq_true',Bool.and_eq_true,decide_eq_true_iff];constructor
 ·intro h u hu h0 h1;rcases h u hu with h2 | h2
  ·rw[decide_eq_true h0,h1]at h2;cases h2
  ·exact h2
 ·intro h u hu;by_cases h0:prcT T u=t
  ·cases h1:hrsB T u v with
   | false=>left;simp
   | true=>exact .inr (h u hu h0 h1)
  ·left;rw[decide_eq_false h0];rfl
theorem Xz {T:List (List Int)} (hn:T.Nodup) (lab:Nat→Int) (t v:Nat):folP T lab t v v=true:=xb.2 fun u hu _ h=>by
 rw[zca hn hu h];exact ⟨by omega,by rw[Int.toNat_natCast]⟩
theorem Qg {N K:Nat} {T:List (List Int)} (hT:TabOK N K T) {lab:Nat→Int} {t v w x:Nat} (hv:v<T.length) (hp:prcT T v=prcT T w) (h:folP T lab t v w=true) (h':folP T lab t w x=true):folP T lab t v x=true:=xb.2 fun u hu ht hh=>by
 obtain ⟨h1,h2⟩:=xb.1 h u hu ht hh;obtain ⟨y,hy⟩:∃y:Nat,repT T u v w=y:=⟨(repT T u v w).toNat,by omega⟩;obtain ⟨h3,h4,h5⟩:=zbp (b:=(x:Int)) hT hu hv hp hh hy;obtain ⟨_,l2,_⟩:=zfI hT hu hv hh hy;obtain ⟨h6,h7⟩:=xb.1 h' y h3 (by rw[l2,ht]) h4;rw[hy,Int.toNat_natCast]at h2;rw[h5]at h6 h7;exact ⟨h6,by rw[h7,h2]⟩
def eqP (T:List (List Int)) (lab:Nat→Int) (t v w:Nat):Bool:=folP T lab t v w&&folP T lab t w v
theorem zaZ {T:List (List Int)} {lab:Nat→Int} {t v w:Nat}:eqP T lab t v w=true↔folP T lab t v w=true∧folP T lab t w v=true:=by unfold eqP;rw[Bool.and_eq_true]
theorem zfA {T:List (List Int)} (hn:T.Nodup) (lab:Nat→Int) (t v:Nat):eqP T lab t v v=true:=zaZ.2 ⟨Xz hn _ _ _,Xz hn _ _ _⟩
theorem zfe {T:List (List Int)} {lab:Nat→Int} {t v w:Nat} (h:eqP T lab t v w=true):eqP T lab t w v=true:=by
 rw[zaZ]at h ⊢;exact h.symm
theorem zdN {N K:Nat} {T:List (List Int)} (hT:TabOK N K T) {lab:Nat→Int} {t v w x:Nat} (hv:v<T.length) (hx:x<T.length) (hp:prcT T v=prcT T w) (hp':prcT T w=prcT T x) (h:eqP T lab t v w=true) (h':eqP T lab t w x=true):eqP T lab t v x=true:=by
 rw[zaZ]at h h' ⊢;exact ⟨Qg hT hv hp h.1 h'.1,Qg hT hx hp'.symm h'.2 h.2⟩
def fclN (cl:List Int) (c:Nat):Nat:=(minT (fun v=>decide (nth cl v=(c:Int))) 0 cl.length).toNat
theorem Xi {cl:List Int} {c v:Nat} (hv:v<cl.length) (h:nth cl v=c):fclN cl c<cl.length∧nth cl (fclN cl c)=c∧∀w,w<fclN cl c→nth cl w≠c:=by
 unfold fclN;rcases minF (fun v=>decide (nth cl v=(c:Int))) cl.length 0 with ⟨_,h1⟩ | ⟨t,h1,h2,h3,h4,h5⟩
 ·have:=h1 v (by omega) (by omega);rw[decide_eq_true h]at this;cases this
 ·rw[h1,Int.toNat_natCast];exact ⟨by omega,of_decide_eq_true h4,fun w hw=>of_decide_eq_false (h5 w (by omega) hw)⟩
def sndB (T:List (List Int)) (cl:List Int) (r f c:Nat):Bool:=decide (prcT T (fclN cl c)=f)&&decide (rndT T (fclN cl c)=r)
theorem qB {T:List (List Int)} {cl:List Int} {r f c:Nat}:sndB T cl r f c=true↔prcT T (fclN cl c)=f∧rndT T (fclN cl c)=r:=by unfold sndB;rw[Bool.and_eq_true,decide_eq_true_iff,decide_eq_true_iff]
def eqC (T:List (List Int)) (cl:List Int) (t c d:Nat):Bool:=eqP T (nth cl) t (fclN cl c) (fclN cl d)
def keyC (T:List (List Int)) (cl:List Int) (r f t c:Nat):Nat:=(minT (fun d=>sndB T cl r f d&&eqC T cl t c d) 0 (c+1)).toNat
def Used (T:List (List Int)) (cl:List Int) (m:Nat):Prop:=cl.length=T.length∧∀c,c<m→∃v,v<T.length∧nth cl v=(c:Nat)
theorem Used.first {T:List (List Int)} {cl:List Int} {m c:Nat} (h:Used T cl m) (hc:c<m):fclN cl c<T.length∧nth cl (fclN cl c)=c:=by
 obtain ⟨v,hv,h1⟩:=h.2 c hc;obtain ⟨a,b,_⟩:=Xi (by rw[h.1];exact hv) h1;exact ⟨by rw[←h.1];exact a,b⟩
section
variable {N K:Nat} {T:List (List Int)} {cl:List Int} {m r f t:Nat}
theorem Xt (hn:T.Nodup) (c:Nat):eqC T cl t c c=true:=zfA hn _ _ _
theorem ZQ {c d:Nat} (h:eqC T cl t c d=true):eqC T cl t d c=true:=zfe h
theorem Zf (hT:TabOK N K T) (hu:Used T cl m) {c d e:Nat} (hc:c<m) (he:e<m) (sc:sndB T cl r f c=true) (sd:sndB T cl r f d=true) (se:sndB T cl r f e=true) (h:eqC T cl t c d=true) (h':eqC T cl t d e=true):eqC T cl t c e=true:=
 zdN hT (hu.first hc).1 (hu.first he).1 (by rw[(qB.1 sc).1,(qB.1 sd).1]) (by rw[(qB.1 sd).1,(qB.1 se).1]) h h'
theorem Ze (hn:T.Nodup) {c:Nat} (sc:sndB T cl r f c=true):keyC T cl r f t c≤c∧sndB T cl r f (keyC T cl r f t c)=true∧eqC T cl t c (keyC T cl r f t c)=true∧∀d,d<keyC T cl r f t c→¬(sndB T cl r f d=true∧eqC T cl t c d=true):=by
 unfold keyC;rcases minF (fun d=>sndB T cl r f d&&eqC T cl t c d) (c+1) 0 with ⟨_,h⟩ | ⟨x,h1,h2,h3,h4,h5⟩
 ·have:=h c (by omega) (by omega);rw[sc,Xt hn]at this;cases this
 ·rw[h1,Int.toNat_natCast];rw[Bool.and_eq_true]at h4;refine ⟨by omega,h4.1,h4.2,fun d hd hh=>?_⟩;have:=h5 d (by omega) hd;rw[hh.1,hh.2]at this;cases this
theorem zbq (hT:TabOK N K T) (hn:T.Nodup) (hu:Used T cl m) {c d:Nat} (hc:c<m) (hd:d<m) (sc:sndB T cl r f c=true) (sd:sndB T cl r f d=true):keyC T cl r f t c=keyC T cl r f t d↔eqC T cl t c d=true:=by
 obtain ⟨a1,a2,a3,a4⟩:=Ze (t:=t) hn sc;obtain ⟨b1,b2,b3,b4⟩:=Ze (t:=t) hn sd;constructor
 ·intro h;rw[←h]at b3 b2;exact Zf hT hu hc hd sc b2 sd a3 (ZQ b3)
 ·intro h;have h1:¬keyC T cl r f t d<keyC T cl r f t c:=fun hlt=>a4 _ hlt ⟨b2,Zf hT hu hc (by omega) sc sd b2 h b3⟩;have h2:¬keyC T cl r f t c<keyC T cl r f t d:=fun hlt=>b4 _ hlt ⟨a2,Zf hT hu hd (by omega) sd sc a2 (ZQ h) a3⟩;omega
end
def symK (T:List (List Int)) (cl:List Int) (r f t k:Nat):List Nat:=((List.range k).filter (sndB T cl r f)).map (keyC T cl r f t)
theorem Yw (T:List (List Int)) (cl:List Int) (r f t k:Nat):symK T cl r f t (k+1)=symK T cl r f t k++if sndB T cl r f k=true then [keyC T cl r f t k] else []:=by
 unfold symK;rw[List.range_succ,List.filter_append,List.map_append,List.filter_cons];cases sndB T cl r f k<;>simp
theorem ZW {T:List (List Int)} {cl:List Int} {r f t k x:Nat}:x∈symK T cl r f t k↔∃c,c<k∧sndB T cl r f c=true∧keyC T cl r f t c=x:=by
 unfold symK;simp only[List.mem_map,List.mem_filter,List.mem_range];constructor
 ·rintro ⟨c,⟨h1,h2⟩,h3⟩;exact ⟨c,h1,h2,h3⟩
 ·rintro ⟨c,h1,h2,h3⟩;exact ⟨c,⟨h1,h2⟩,h3⟩
def symV (T:List (List Int)) (cl:List Int) (r f t c:Nat):Int:=if sndB T cl r f c=true then (lab (symK T cl r f t (c+1)) (keyC T cl r f t c):Int) else -1
def symL (T:List (List Int)) (cl:List Int) (r f t m:Nat):List Int:=(List.range m).map (symV T cl r f t)
def manyN (T:List (List Int)) (cl:List Int) (r f t m:Nat):Nat:=(firsts (symK T cl r f t m)).length
theorem zfH (T:List (List Int)) (cl:List Int) (r f t m:Nat):(symL T cl r f t m).length=m:=by simp[symL]
theorem ze9 {l:List Nat} {x:Nat} (h:x∈l) (r:List Nat):lab (l++r) x=lab l x:=by
 induction r generalizing l with
 | nil=>rw[List.append_nil]
 | cons a r ih=>
  rw[show l++a::r=(l++[a])++r by simp,ih (List.mem_append_left _ h),qW h]
theorem Yd (T:List (List Int)) (cl:List Int) (r f t:Nat) {k:Nat}:∀j,∃x,symK T cl r f t (k+j)=symK T cl r f t k++x
 | 0=>⟨[],by simp⟩
 | j+1=>by
  obtain ⟨x,hx⟩:=Yd T cl r f t (k:=k) j;rw[show k+(j+1)=(k+j)+1 from rfl,Yw,hx];exact ⟨_,List.append_assoc ..⟩
end Go.Proofs.YtiabbjolepnjkaaGreat
namespace Go.Proofs.YtiabbjolepnjkaaGreat
section
variable {N K:Nat} {T:List (List Int)} {cl:List Int} {m r f t:Nat}
theorem zbR (hT:TabOK N K T) (hn:T.Nodup) (hu:Used T cl m) {c d:Nat} (hc:c≤m) (h:d∈firsts (symK T cl r f t c)):d<c∧sndB T cl r f d=true∧keyC T cl r f t d=d:=by
 obtain ⟨e,he,se,hk⟩:=ZW.1 (zU.1 h);obtain ⟨a1,a2,a3,_⟩:=Ze (t:=t) hn se;rw[hk]at a1 a2 a3;refine ⟨by omega,a2,?_⟩;have:=(zbq hT hn hu (by omega) (by omega) se a2).2 a3;rw[←this,hk]
theorem zgQ (hT:TabOK N K T) (hn:T.Nodup) (hu:Used T cl m) {c d:Nat} (hc:c<m) (sc:sndB T cl r f c=true) (h:d∈firsts (symK T cl r f t c)):eqC T cl t d c=true↔d=keyC T cl r f t c:=by
 obtain ⟨h1,h2,h3⟩:=zbR hT hn hu (by omega) h;rw[←zbq hT hn hu (by omega) hc h2 sc,h3]
theorem zaA (hT:TabOK N K T) (hn:T.Nodup) (hu:Used T cl m) {c:Nat} (hc:c<m) (sc:sndB T cl r f c=true):
  (keyC T cl r f t c∈firsts (symK T cl r f t c)∧firsts (symK T cl r f t (c+1))=firsts (symK T cl r f t c)∧symV T cl r f t c=(firsts (symK T cl r f t c)).idxOf (keyC T cl r f t c))∨
  (keyC T cl r f t c=c∧c∉firsts (symK T cl r f t c)∧firsts (symK T cl r f t (c+1))=firsts (symK T cl r f t c)++[c]∧symV T cl r f t c=(firsts (symK T cl r f t c)).length):=by
 obtain ⟨a1,a2,a3,_⟩:=Ze (t:=t) hn sc;have hs:=Yw T cl r f t c;rw[if_pos sc]at hs;by_cases hm:keyC T cl r f t c∈symK T cl r f t c
 ·left;refine ⟨zU.2 hm,by rw[hs,Ql hm],?_⟩;unfold symV;rw[if_pos sc,hs,qW hm];rfl
 ·right;have hk:keyC T cl r f t c=c:=by
   apply Decidable.byContradiction;intro hne;have hlt:keyC T cl r f t c<c:=by omega
   have:=(zbq hT hn hu hc (by omega) sc a2).2 a3;exact hm (ZW.2 ⟨keyC T cl r f t c,hlt,a2,this.symm⟩)
  refine ⟨hk,fun h=>hm (by rw[hk];exact zU.1 h),by rw[hs,Y4 hm,hk],?_⟩;unfold symV;rw[if_pos sc,hs,zaV hm]
theorem Qx {c:Nat} (sc:sndB T cl r f c=false):firsts (symK T cl r f t (c+1))=firsts (symK T cl r f t c)∧symV T cl r f t c= -1:=by
 have hs:=Yw T cl r f t c;rw[sc,if_neg (by simp),List.append_nil]at hs;exact ⟨by rw[hs],by unfold symV;rw[sc,if_neg (by simp)]⟩
theorem X0 (hT:TabOK N K T) (hn:T.Nodup) (hu:Used T cl m) {c:Nat} (hc:c<m): -1≤symV T cl r f t c∧symV T cl r f t c<manyN T cl r f t m∧(0≤symV T cl r f t c↔sndB T cl r f c=true):=by
 cases sc:sndB T cl r f c with
 | false=>rw[(Qx (t:=t) sc).2];refine ⟨by omega,by omega,?_⟩;simp
 | true=>
  have h1:symV T cl r f t c=(lab (symK T cl r f t (c+1)) (keyC T cl r f t c):Int):=by unfold symV;rw[if_pos sc]
  obtain ⟨x,hx⟩:=Yd T cl r f t (k:=c+1) (m - (c+1));rw[show c+1+(m - (c+1))=m by omega]at hx;have hk:keyC T cl r f t c∈symK T cl r f t (c+1):=ZW.2 ⟨c,by omega,sc,rfl⟩;have h2:=ze9 hk x;rw[←hx]at h2;have h3:=zfZ (ZW.2 ⟨c,hc,sc,rfl⟩:keyC T cl r f t c∈symK T cl r f t m);unfold manyN;rw[h1,←h2];refine ⟨by omega,by omega,by simp⟩
end
def Enough (T:List (List Int)) (cl sy:List Int) (t:Nat):Prop:=∀a b,a<sy.length→b<a→0≤nth sy a→nth sy a=nth sy b→eqC T cl t a b=true
theorem zct {N K:Nat} {T:List (List Int)} {cl sy:List Int} {r f t:Nat} (hT:TabOK N K T) (hn:T.Nodup) (hu:Used T cl sy.length) (hs:∀c,c<sy.length→0≤nth sy c→sndB T cl r f c=true):
  Enough T cl sy t↔∀c,c<sy.length→0≤nth sy c→eqC T cl t (fstC sy c) c=true:=by
 constructor
 ·intro h c hc h0;obtain ⟨a1,a2,_⟩:=yJ sy c;by_cases e:fstC sy c=c
  ·rw[e];exact Xt hn _
  ·exact ZQ (h c (fstC sy c) hc (by omega) h0 a2.symm)
 ·intro h a b ha hb h0 he;have h1:=h a ha h0;have h2:=h b (by omega) (by omega);rw[←zfU he]at h2;obtain ⟨x1,x2,_⟩:=yJ sy a;have sx:sndB T cl r f (fstC sy a)=true:=hs (fstC sy a) (by omega) (by rw[x2];exact h0);exact Zf hT hu ha (by omega:b<sy.length) (hs a ha h0) sx (hs b (by omega) (by omega)) (ZQ h1) h2
end Go.Proofs.YtiabbjolepnjkaaGreat
namespace Go.Proofs.YtiabbjolepnjkaaGreat
section
variable {N K:Nat} {T:List (List Int)} {cl:List Int} {m r f t:Nat}
theorem XQ {c:Nat} (sc:sndB T cl r f c=false):manyN T cl r f t (c+1)=manyN T cl r f t c:=by
 unfold manyN;rw[(Qx (t:=t) sc).1]
theorem Z2:manyN T cl r f t 0=0:=rfl
end
def widN (n:Nat):Nat:=if n≤1 then 0 else Nat.log2 (n - 1)+1
theorem Xh (n:Nat):n≤2 ^ widN n∧∀b,b<widN n→2 ^ b<n:=by
 unfold widN;by_cases h:n≤1
 ·rw[if_pos h];exact ⟨by simpa using h,fun b hb=>absurd hb (by omega)⟩
 ·rw[if_neg h];have h1:n - 1<2 ^ (Nat.log2 (n - 1)+1):=Nat.lt_log2_self;have h2:2 ^ Nat.log2 (n - 1)≤n - 1:=Nat.log2_self_le (by omega);refine ⟨by omega,fun b hb=>?_⟩;have h3:2 ^ b≤2 ^ Nat.log2 (n - 1):=Nat.pow_le_pow_right (by decide) (by omega);omega
end Go.Proofs.YtiabbjolepnjkaaGreat
namespace Go.Proofs.YtiabbjolepnjkaaGreat
section
variable {N K:Nat} {T:List (List Int)} {cl:List Int} {m r f t:Nat}
theorem Y8 (hT:TabOK N K T) (hn:T.Nodup) (hu:Used T cl m) {c:Nat} (hc:c<m):manyN T cl r f t (c+1)=manyN T cl r f t c∨(sndB T cl r f c=true∧manyN T cl r f t (c+1)=manyN T cl r f t c+1∧symV T cl r f t c=(manyN T cl r f t c:Int)):=by
 cases sc:sndB T cl r f c with
 | false=>exact .inl (XQ sc)
 | true=>
  rcases zaA (t:=t) hT hn hu hc sc with ⟨h1,h2,h3⟩ | ⟨h1,h2,h3,h4⟩
  ·left;unfold manyN;rw[h2]
  ·right;unfold manyN;rw[h3,h4];simp
def sndN (T:List (List Int)) (cl:List Int) (r f k:Nat):Nat:=((List.range k).filter (sndB T cl r f)).length
theorem zdY (k:Nat):sndN T cl r f (k+1)=sndN T cl r f k+if sndB T cl r f k=true then 1 else 0:=by
 unfold sndN;rw[List.range_succ,List.filter_append,List.length_append];cases h:sndB T cl r f k<;>simp[h]
theorem zef (hT:TabOK N K T) (hn:T.Nodup) (hu:Used T cl m):∀k,k≤m→manyN T cl r f t k≤sndN T cl r f k
 | 0,_=>by rw[Z2];omega
 | k+1,hk=>by
  have ih:=zef hT hn hu k (by omega);rw[zdY];rcases Y8 (r:=r) (f:=f) (t:=t) hT hn hu (show k<m by omega) with h | ⟨h1,h2,h3⟩
  ·rw[h];omega
  ·rw[h2,if_pos h1];omega
end
end Go.Proofs.YtiabbjolepnjkaaGreat
namespace Go.Proofs.YtiabbjolepnjkaaGreat
open Go.RowKit
attribute [local go_sem ↓] Go.wp_at_zero Go.wp_at_succ
def silL (s:SysF):List Int:=List.replicate s.tab.length (-1)
theorem zb9 (s:SysF):(silL s).length=s.tab.length:=List.length_replicate ..
theorem QK {s:SysF} {v:Nat} (h:v<s.tab.length):nth (silL s) v= -1:=by simp[silL,nth,h]
theorem zeW {s:SysF} (h8:Moves8 s.p.st):ruleE s (silL s)=verE s:=by
 unfold ruleE;by_cases h0:verE s=0
 case neg=>rw[if_neg h0]
 rw[if_pos h0,h0];have hg:=qD h0 h8;have ho:1≤s.p.outs:=by have:=yq hg.pok.t;omega
 unfold formE;rw[if_pos (zb9 s)];refine yj fun v hv=>?_;rw[zb9]at hv;unfold frmV;rw[QK hv,if_neg (by omega)];rcases hg.tab.bef hv with h1 | ⟨u,h1,h2⟩
 ·rw[if_neg (by omega)]
 ·rw[h2,Int.toNat_natCast,QK (by omega),if_neg (by omega)]
def mesE (s:SysF) (cl:List Int):Int:=if verE s=0 then chkQ s (silL s) cl else verE s
theorem zgn {s:SysF} (h8:Moves8 s.p.st) (cl:List Int):verQ s (silL s) cl=mesE s cl:=by
 unfold verQ mesE;rw[zeW h8]
def plcE (s:SysF) (cl:List Int) (r f t:Int):Int:=
 if mesE s cl=0 then (if r<0∨s.p.rounds≤r then 2 else if f<0∨s.tn≤f∨t<0∨s.tn≤t then 6 else if f=t then 11 else 0) else mesE s cl
theorem zd7 {s:SysF} {cl:List Int} (h:mesE s cl=0):verE s=0∧Good cl∧cl.length=s.tab.length∧fitB s.tab (silL s) cl=true:=by
 unfold mesE at h;by_cases h0:verE s=0
 case neg=>rw[if_neg h0]at h;exact absurd h h0
 rw[if_pos h0]at h;unfold chkQ at h;by_cases h1:checkS cl=0
 case neg=>rw[if_neg h1]at h;exact absurd h h1
 rw[if_pos h1]at h;by_cases h2:cl.length=s.tab.length
 case neg=>rw[if_neg h2]at h;cases h
 rw[if_pos h2]at h;cases h3:fitB s.tab (silL s) cl with
 | false=>rw[h3]at h;cases h
 | true=>exact ⟨h0,Yz.1 h1,h2,rfl⟩
theorem zfY {s:SysF} {cl:List Int} {r f t:Int} (h:plcE s cl r f t=0):mesE s cl=0∧(0≤r∧r<s.p.rounds)∧(0≤f∧f<s.tn)∧(0≤t∧t<s.tn)∧f≠t:=by
 unfold plcE at h;by_cases h0:mesE s cl=0
 case neg=>rw[if_neg h0]at h;exact absurd h h0
 rw[if_pos h0]at h;by_cases h1:r<0∨s.p.rounds≤r
 ·rw[if_pos h1]at h;cases h
 rw[if_neg h1]at h;by_cases h2:f<0∨s.tn≤f∨t<0∨s.tn≤t
 ·rw[if_pos h2]at h;cases h
 rw[if_neg h2]at h;by_cases h3:f=t
 ·rw[if_pos h3]at h;cases h
 exact ⟨h0,by omega,by omega,by omega,h3⟩
end Go.Proofs.YtiabbjolepnjkaaGreat
namespace Go.Proofs.YtiabbjolepnjkaaGreat
def mK (cl:List Int) (k:Nat):Nat:=(numS (cl.take k)).toNat
def mN (cl:List Int):Nat:=(numS cl).toNat
theorem zdk (cl:List Int) (k:Nat):numS (cl.take k)=(mK cl k:Int):=by
 have:=zaN (cl.take k);unfold mK;omega
theorem zbF (cl:List Int):mK cl 0=0:=by unfold mK;rw[List.take_zero];rfl
theorem Xq (cl:List Int):mK cl cl.length=mN cl:=by unfold mK mN;rw[List.take_length]
theorem zfX {cl:List Int} {k:Nat} (hk:k<cl.length):(mK cl (k+1):Int)=max (mK cl k:Int) (nth cl k+1):=by
 rw[←zdk,←zdk,show cl.take (k+1)=cl.take k++[nth cl k] by rw[yk hk];exact (List.take_append_getElem hk).symm,XR]
theorem zbH {cl:List Int}:∀{k w:Nat},k≤cl.length→w<k→nth cl w<mK cl k
 | 0,w,_,h=>by omega
 | k+1,w,hk,h=>by
  have hm:=zfX (cl:=cl) (k:=k) (by omega);by_cases e:w=k
  ·subst e;omega
  ·have:=zbH (cl:=cl) (k:=k) (w:=w) (by omega) (by omega);omega
theorem zdX {cl:List Int} (hg:Good cl) {k:Nat} (hk:k<cl.length):
  (nth cl k=mK cl k∧mK cl (k+1)=mK cl k+1∧fclN cl (mK cl k)=k)∨(nth cl k≠mK cl k∧mK cl (k+1)=mK cl k):=by
 have hm:=zfX hk;have h1:=hg.2 k hk;rw[zdk]at h1;by_cases e:nth cl k=mK cl k
 ·refine .inl ⟨e,by omega,?_⟩;obtain ⟨a,b,c⟩:=Xi hk e;rcases Nat.lt_trichotomy (fclN cl (mK cl k)) k with h | h | h
  ·have:=zbH (cl:=cl) (k:=k) (by omega) h;omega
  ·exact h
  ·exact absurd e (c k h)
 ·exact .inr ⟨e,by omega⟩
theorem Qv {cl:List Int} (hg:Good cl):∀{k:Nat},k≤cl.length→mK cl k≤k∧∀c,c<mK cl k→∃v,v<k∧nth cl v=(c:Nat)
 | 0,_=>⟨by rw[zbF];omega,fun c hc=>by rw[zbF]at hc;omega⟩
 | k+1,hk=>by
  obtain ⟨h0,h⟩:=Qv hg (k:=k) (by omega);rcases zdX hg (show k<cl.length by omega) with ⟨h1,h2,_⟩ | ⟨_,h2⟩
  ·refine ⟨by omega,fun c hc=>?_⟩;by_cases e:c=mK cl k
   ·exact ⟨k,by omega,by rw[e];exact h1⟩
   ·obtain ⟨v,hv,h3⟩:=h c (by omega);exact ⟨v,by omega,h3⟩
  ·refine ⟨by omega,fun c hc=>?_⟩;obtain ⟨v,hv,h3⟩:=h c (by omega);exact ⟨v,by omega,h3⟩
theorem qU {T:List (List Int)} {cl:List Int} (hg:Good cl) (hl:cl.length=T.length):Used T cl (mN cl):=⟨hl,fun c hc=>by
 rw[←Xq]at hc;obtain ⟨v,hv,h⟩:=(Qv hg (Nat.le_refl _)).2 c hc;exact ⟨v,by omega,h⟩⟩
theorem zft {cl:List Int} (hg:Good cl):mN cl≤cl.length:=by
 rw[←Xq];exact (Qv hg (Nat.le_refl _)).1
theorem zfQ {cl:List Int} (hg:Good cl) {v:Nat} (hv:v<cl.length):∃c:Nat,c<mN cl∧nth cl v=(c:Int):=by
 have h1:=zbH (cl:=cl) (Nat.le_refl _) hv;rw[Xq]at h1;have:=(hg.2 v hv).1;exact ⟨(nth cl v).toNat,by omega,by omega⟩
section
variable {N K:Nat} {T:List (List Int)} {cl:List Int} {m r f t:Nat}
theorem ZT (hT:TabOK N K T) (hn:T.Nodup) (hu:Used T cl m):∀k,k≤m→manyN T cl r f t k≤k
 | 0,_=>by rw[Z2];omega
 | k+1,hk=>by
  have:=ZT hT hn hu k (by omega);rcases Y8 (r:=r) (f:=f) (t:=t) hT hn hu (show k<m by omega) with h | ⟨_,h,_⟩<;>omega
theorem zhe (hT:TabOK N K T) (hn:T.Nodup) (hu:Used T cl m) (hm:m≤60000):∀k,k≤m→∀x∈symL T cl r f t k,WF x:=fun k hk x hx=>by
 unfold symL at hx;obtain ⟨c,hc,rfl⟩:=List.mem_map.1 hx;have hc:=List.mem_range.1 hc;have h1:=X0 (r:=r) (f:=f) (t:=t) hT hn hu (show c<m by omega);have h2:=ZT (r:=r) (f:=f) (t:=t) hT hn hu m (Nat.le_refl _);exact WF.small (by omega)
end
end Go.Proofs.YtiabbjolepnjkaaGreat
namespace Go.Proofs.YtiabbjolepnjkaaGreat
open Go.RowKit
attribute [local go_sem ↓] Go.wp_at_zero Go.wp_at_succ
def FopTo (T:List (List Int)) (lab:Nat→Int) (t v w k:Nat):Prop:=∀u,u<k→prcT T u=t→hrsB T u v=true→0≤repT T u v w∧lab (repT T u v w).toNat=lab u
theorem FopTo.next {T:List (List Int)} {lab:Nat→Int} {t v w k:Nat} (h:FopTo T lab t v w k) (hk:prcT T k=t→hrsB T k v=true→0≤repT T k v w∧lab (repT T k v w).toNat=lab k):FopTo T lab t v w (k+1):=fun u hu hp hh=>by
 by_cases e:u=k
 ·subst e;exact hk hp hh
 ·exact h u (by omega) hp hh
theorem zgl {T:List (List Int)} {lab:Nat→Int} {t v w k:Nat} (hk:k<T.length) (hp:prcT T k=t) (hh:hrsB T k v=true) (h:¬(0≤repT T k v w∧lab (repT T k v w).toNat=lab k)):folP T lab t v w=false:=by
 cases e:folP T lab t v w with
 | false=>rfl
 | true=>exact absurd (xb.1 e k hk hp hh) h
theorem zaI {base n:Nat} {w:World} {v:Value} {l:List Int} (hn:l.length=n) (h:w.ownsRow base 3 1 v n (l.map (Value.int .i64))) (hw:∀x∈l,WF x):Ints (fun b=>base≤b) w v l:=by
 subst hn;exact Ints.of_own h hw
def SymR (B:Nat) (s:SysF) (cl:List Int) (r f t:Int) (w':World) (q:Value):Prop:=(plcE s cl r f t=0∧∃u,q=.tuple #[u,.int .i64 0]∧Ints (fun b=>B≤b) w' u (symL s.tab cl r.toNat f.toNat t.toNat (mN cl)))∨(plcE s cl r f t≠0∧q=.tuple #[.slice none 0 0,plcE s cl r f t])
theorem Xj {S:Nat→Prop} {w:World} {v:Value} {s:SysF} {cl:List Int} {r f t:Int} (h:SysV S w v s) (h0:plcE s cl r f t=0):GoodS s s.N s.K∧Good cl∧cl.length=s.tab.length:=by
 obtain ⟨h1,h2,h3,_⟩:=zd7 (zfY h0).1;exact ⟨qD h1 h.moves8,h2,h3⟩
theorem Zm {s:SysF} {cl:List Int} {r f t:Int} (h0:plcE s cl r f t=0):r=(r.toNat:Int)∧f=(f.toNat:Int)∧t=(t.toNat:Int):=by
 have:=zfY h0;omega
def cntP (s:SysF) (cl:List Int) (r f t:Int):Int:=if plcE s cl r f t=0 then manyN s.tab cl r.toNat f.toNat t.toNat (mN cl) else 0
theorem Z9 {n:Nat} (h:n≤60000):widN n≤16:=by
 obtain ⟨_,h1⟩:=Xh n;apply Decidable.byContradiction;intro h2;have:=h1 16 (by omega);have e:(2:Nat) ^ 16=65536:=by decide
 omega
end Go.Proofs.YtiabbjolepnjkaaGreat
namespace Go.Proofs.YtiabbjolepnjkaaGreat
open Go.RowKit
attribute [local go_sem ↓] Go.wp_at_zero Go.wp_at_succ
def sumTo (f:Nat→Nat):Nat→Nat
 | 0=>0
 | n+1=>sumTo f n+f n
theorem ZR {f:Nat→Nat} {b:Nat} (h:∀k,f k≤b):∀n,sumTo f n≤n * b
 | 0=>by simp[sumTo]
 | n+1=>by
  have h1:=ZR h n;have h2:=h n;rw[Nat.succ_mul];show sumTo f n+f n≤_;omega
def bitW (T:List (List Int)) (cl:List Int) (m k p q:Nat):Nat:=if p=q then 0 else widN (manyN T cl k p q m)
def bitR (T:List (List Int)) (cl:List Int) (m N k p:Nat):Nat:=sumTo (bitW T cl m k p) N
def bitC (T:List (List Int)) (cl:List Int) (m N k:Nat):Nat:=sumTo (bitR T cl m N k) N
def bitS (T:List (List Int)) (cl:List Int) (m N K:Nat):Nat:=sumTo (bitC T cl m N) K
def bitA (s:SysF) (cl:List Int):Int:=if mesE s cl=0 then bitS s.tab cl (mN cl) s.N s.K else 0
section
variable {T:List (List Int)} {cl:List Int} {m N K:Nat}
theorem zdj (hb:∀k p q,manyN T cl k p q m≤60000) (k p q:Nat):bitW T cl m k p q≤16:=by
 unfold bitW;split
 ·omega
 ·exact Z9 (hb k p q)
theorem zet (hb:∀k p q,manyN T cl k p q m≤60000) (k p:Nat) {n:Nat} (hn:n≤5):sumTo (bitW T cl m k p) n≤80:=by
 have:=ZR (zdj hb k p) n;have:n * 16≤5 * 16:=Nat.mul_le_mul_right _ hn;omega
theorem zdC (hN:N≤5) (hb:∀k p q,manyN T cl k p q m≤60000) (k:Nat) {n:Nat} (hn:n≤5):sumTo (bitR T cl m N k) n≤400:=by
 have:=ZR (f:=bitR T cl m N k) (b:=80) (fun p=>zet hb k p hN) n;have:n * 80≤5 * 80:=Nat.mul_le_mul_right _ hn;omega
theorem zeu (hN:N≤5) (hb:∀k p q,manyN T cl k p q m≤60000) {n:Nat} (hn:n≤6):sumTo (bitC T cl m N) n≤2400:=by
 have:=ZR (f:=bitC T cl m N) (b:=400) (fun k=>zdC hN hb k hN) n;have:n * 400≤6 * 400:=Nat.mul_le_mul_right _ hn;omega
end
def sfmE (T:List (List Int)) (cl sy:List Int) (r f c:Nat):Int:=if (decide (0≤nth sy c)=sndB T cl r f c)∧ -1≤nth sy c∧nth sy c≤1048576 then 0 else 2
def enoP (T:List (List Int)) (cl sy:List Int) (t a b:Nat):Prop:=0≤nth sy a→nth sy a=nth sy b→eqC T cl t a b=true
def enoB (T:List (List Int)) (cl sy:List Int) (t:Nat):Bool:=(List.range sy.length).all fun a=>(List.range a).all fun b=> !decide (0≤nth sy a)||(!decide (nth sy a=nth sy b)||eqC T cl t a b)
theorem zf9 {T:List (List Int)} {cl sy:List Int} {t:Nat}:enoB T cl sy t=true↔∀a b,a<sy.length→b<a→enoP T cl sy t a b:=by
 unfold enoB enoP;simp only[List.all_eq_true,List.mem_range,Bool.or_eq_true,Bool.not_eq_true',decide_eq_false_iff_not];constructor
 ·intro h a b ha hb h0 he;rcases h a ha b hb with h1 | h1 | h1
  ·exact absurd h0 h1
  ·exact absurd he h1
  ·exact h1
 ·intro h a ha b hb;by_cases h0:0≤nth sy a
  ·by_cases he:nth sy a=nth sy b
   ·exact .inr (.inr (h a b ha hb h0 he))
   ·exact .inr (.inl he)
  ·exact .inl h0
def vsyE (s:SysF) (cl sy:List Int) (r f t:Int):Int:=
 if plcE s cl r f t=0 then (if sy.length=mN cl then (if firstE (sfmE s.tab cl sy r.toNat f.toNat) sy.length=0 then (if enoB s.tab cl sy t.toNat then 0 else 18) else 2) else 3) else plcE s cl r f t
end Go.Proofs.YtiabbjolepnjkaaGreat
