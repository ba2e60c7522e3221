/- Part of the proof that the laws answer true for every input. -/
import Derived.Test.YtiabbjolepnjkaaGreatPVaA24
set_option linter.unusedSimpArgs false
set_option linter.unnecessarySimpa false
set_option linter.unusedVariables false
set_option maxRecDepth 100000
set_option maxHeartbeats 40000000
namespace Go.Proofs.YtiabbjolepnjkaaGreat
def FitP (T:List (List Int)) (ch cl:List Int):Prop:=∀v w,v<T.length→w<T.length→v≠w→nth cl v=nth cl w→(prcT T v=prcT T w∧rndT T v=rndT T w∧nth ch v=nth ch w)∧folB T (nth cl) v w=true
theorem zgH {T:List (List Int)} {ch cl:List Int} (h:FitP T ch cl) {v w:Nat} (hv:v<T.length) (hw:w<T.length) (hne:v≠w) (hc:nth cl v=nth cl w):samB T ch (nth cl) v w=true:=by
 obtain ⟨⟨a,b,c⟩,d⟩:=h v w hv hw hne hc;exact yt.2 ⟨a,b,c,d,(h w v hw hv (fun e=>hne e.symm) hc.symm).2⟩
def fstC (cl:List Int) (v:Nat):Nat:=(minT (fun w=>decide (nth cl w=nth cl v)) 0 (v+1)).toNat
theorem Zs (cl:List Int) (v:Nat):fstC cl v≤v∧nth cl (fstC cl v)=nth cl v∧∀w,w<fstC cl v→nth cl w≠nth cl v:=by
 unfold fstC;rcases minF (fun w=>decide (nth cl w=nth cl v)) (v+1) 0 with ⟨_,h⟩ | ⟨t,h1,h2,h3,h4,h5⟩
 ·have:=h v (by omega) (by omega);rw[decide_eq_true rfl]at this;cases this
 ·rw[h1,Int.toNat_natCast];exact ⟨by omega,of_decide_eq_true h4,fun w hw=>of_decide_eq_false (h5 w (by omega) hw)⟩
theorem zg0 {cl:List Int} {v w:Nat} (h:nth cl v=nth cl w):fstC cl v=fstC cl w:=by
 obtain ⟨a1,a2,a3⟩:=Zs cl v;obtain ⟨b1,b2,b3⟩:=Zs cl w;rcases Nat.lt_trichotomy (fstC cl v) (fstC cl w) with h1 | h1 | h1
 ·exact absurd (a2.trans h) (b3 _ h1)
 ·exact h1
 ·exact absurd (b2.trans h.symm) (a3 _ h1)
theorem zbQ {N K:Nat} {T:List (List Int)} (hT:TabOK N K T) (hn:T.Nodup) {ch cl:List Int}:FitP T ch cl↔∀v,v<T.length→samB T ch (nth cl) v (fstC cl v)=true:=by
 constructor
 ·intro h v hv;obtain ⟨a1,a2,_⟩:=Zs cl v;by_cases e:v=fstC cl v
  ·rw[←e];exact Xg hn _ _ _
  ·exact zgH h hv (by omega) e a2.symm
 ·intro h v w hv hw hne hc;have h1:=h v hv;have h2:=h w hw;rw[←zg0 hc]at h2;obtain ⟨a,b,c,d,_⟩:=yt.1 (ZE hT hv hw h1 (Q7 h2));exact ⟨⟨a,b,c⟩,d⟩
theorem Xf {s:SysF} (hg:GoodS s s.N s.K) (ch:List Int):FitP s.tab ch (quoL s ch):=(zbQ hg.tab hg.nodup).2 fun v hv=>by
 obtain ⟨a1,a2,_⟩:=Zs (quoL s ch) v;exact (zfM hg hv (by omega)).1 a2.symm
def dsB (T:List (List Int)) (ch:List Int):Nat→Nat→Int→Bool
 | 0,u,o=>decide (o<0)|| !decide (nth ch u=nth ch o.toNat)
 | m+1,u,o=>decide (0≤o)&&(List.range T.length).any fun y=>hrsB T y u&&dsB T ch m y (repT T y u o)
theorem ZV {T:List (List Int)} {ch:List Int} {u:Nat} {o:Int}:dsB T ch 0 u o=true↔o<0∨nth ch u≠nth ch o.toNat:=by
 rw[show dsB T ch 0 u o=(decide (o<0)|| !decide (nth ch u=nth ch o.toNat)) from rfl,Bool.or_eq_true,decide_eq_true_iff,Bool.not_eq_true',decide_eq_false_iff_not]
theorem Zf {T:List (List Int)} {ch:List Int} {m u:Nat} {o:Int}:dsB T ch (m+1) u o=true↔0≤o∧∃y,y<T.length∧hrsB T y u=true∧dsB T ch m y (repT T y u o)=true:=by
 rw[show dsB T ch (m+1) u o=(decide (0≤o)&&(List.range T.length).any fun y=>hrsB T y u&&dsB T ch m y (repT T y u o)) from rfl];simp only[Bool.and_eq_true,decide_eq_true_iff,List.any_eq_true,List.mem_range]
theorem Yt {N K:Nat} {T:List (List Int)} (hT:TabOK N K T) (hn:T.Nodup) {ch cl:List Int} (hf:FitP T ch cl):∀(m u w:Nat),u<T.length→w<T.length→nth cl u=nth cl w→dsB T ch m u w=false
 | 0,u,w,hu,hw,hc=>by
  cases h:dsB T ch 0 u w with
  | false=>rfl
  | true=>
   rcases ZV.1 h with h1 | h1
   ·omega
   ·rw[Int.toNat_natCast]at h1;by_cases e:u=w
    ·subst e;exact absurd rfl h1
    ·exact absurd (hf u w hu hw e hc).1.2.2 h1
 | m+1,u,w,hu,hw,hc=>by
  cases h:dsB T ch (m+1) u w with
  | false=>rfl
  | true=>
   obtain ⟨_,y,hy,h1,h2⟩:=Zf.1 h;have hfo:0≤repT T y u w∧nth cl (repT T y u w).toNat=nth cl y:=by
    by_cases e:u=w
    ·subst e;rw[XK hn hy h1,Int.toNat_natCast];exact ⟨by omega,rfl⟩
    ·exact yp.1 (hf u w hu hw e hc).2 y hy h1
   obtain ⟨z,hz⟩:∃z:Nat,repT T y u w=z:=⟨(repT T y u w).toNat,by omega⟩;have hl:=(qU (T:=T) (u:=y) (w:=u) (b:=(w:Int))).2;rw[hz]at h2 hfo;rw[Int.toNat_natCast]at hfo;rw[Yt hT hn hf m y z hy (by omega) hfo.2.symm]at h2;cases h2
theorem ze8 {N K:Nat} {T:List (List Int)} (hT:TabOK N K T) {u v w y:Nat} (hu:u<T.length) (hv:v<T.length) (h:hrsB T u v=true) (hy:repT T u v w=(y:Int)):y<T.length∧prcT T y=prcT T u∧rndT T y=rndT T u:=by
 unfold repT at hy;rcases XA (T:=T) (x:=(nthL T u).set (3+prcT T v) (w:Int)) with ⟨h1,_⟩ | ⟨z,h1,h2,h3⟩
 ·omega
 ·obtain rfl:z=y:=by omega
  have e:∀i,i<3→nth (nthL T z) i=nth (nthL T u) i:=fun i hi=>by
   rw[h3];by_cases hl:3+prcT T v<(nthL T u).length
   ·rw[zcg hl,if_neg (by omega)]
   ·rw[List.set_eq_of_length_le (by omega)]
  exact ⟨h2,by unfold prcT;rw[e 0 (by omega)],by unfold rndT;rw[e 1 (by omega)]⟩
theorem zgm {N K:Nat} {T:List (List Int)} (hT:TabOK N K T) (hn:T.Nodup) {ch:List Int}:∀(m v w:Nat),v<T.length→w<T.length→prcT T v=prcT T w→rndT T v=rndT T w→rndT T v+m=K→samB T ch (quoE T ch K) v w=false→∃j,j≤m∧(dsB T ch j v w=true∨dsB T ch j w v=true):=by
 intro m;induction m with
 | zero=>
  intro v w hv hw hp hr hm h;have hfo:∀a b,rndT T a=K→a<T.length→folB T (quoE T ch K) a b=true:=fun a b hk ha=>yp.2 fun u hu h1=>by
   have:=ZS hT hu ha h1;have:=Yx hT hu;omega
  have hc:nth ch v≠nth ch w:=fun e=>by
   rw[yt.2 ⟨hp,hr,e,hfo v w (by omega) hv,hfo w v (by omega) hw⟩]at h;cases h
  exact ⟨0,Nat.le_refl _,.inl (ZV.2 (.inr (by rw[Int.toNat_natCast];exact hc)))⟩
 | succ m ih=>
  intro v w hv hw hp hr hm h;by_cases hc:nth ch v=nth ch w
  case neg=>exact ⟨0,by omega,.inl (ZV.2 (.inr (by rw[Int.toNat_natCast];exact hc)))⟩
  have key:∀a b,a<T.length→b<T.length→prcT T a=prcT T b→rndT T a=rndT T b→rndT T a+(m+1)=K→folB T (quoE T ch K) a b=false→∃j,j≤m+1∧(dsB T ch j a b=true∨dsB T ch j b a=true):=by
   intro a b ha hb hab hrr hmm hfo;have hex:∃u,u<T.length∧hrsB T u a=true∧¬(0≤repT T u a b∧quoE T ch K (repT T u a b).toNat=quoE T ch K u):=by
    apply Classical.byContradiction;intro hno;rw[yp.2 fun u hu h1=>Classical.byContradiction fun h2=>hno ⟨u,hu,h1,h2⟩]at hfo;cases hfo
   obtain ⟨u,hu,h1,h2⟩:=hex;by_cases h0:repT T u a b<0
   ·exact ⟨1,by omega,.inl (Zf.2 ⟨by omega,u,hu,h1,ZV.2 (.inl h0)⟩)⟩
   ·obtain ⟨y,hy⟩:∃y:Nat,repT T u a b=y:=⟨(repT T u a b).toNat,by omega⟩;obtain ⟨l1,l2,l3⟩:=ze8 hT hu ha h1 hy;obtain ⟨_,g2,g3⟩:=zbT (b:=(a:Int)) hT hu ha hab h1 hy;rw[XK hn hu h1]at g3;have hne:samB T ch (quoE T ch K) u y=false:=by
     cases hs:samB T ch (quoE T ch K) u y with
     | false=>rfl
     | true=>
      have:=(zf1 hT hn hu l1).2 hs;rw[hy,Int.toNat_natCast]at h2;exact absurd ⟨by omega,this.symm⟩ h2
    have hru:=ZS hT hu ha h1;obtain ⟨j,hj,hd⟩:=ih u y hu l1 l2.symm l3.symm (by omega) hne;rcases hd with hd | hd
    ·exact ⟨j+1,by omega,.inl (Zf.2 ⟨by omega,u,hu,h1,by rw[hy];exact hd⟩)⟩
    ·exact ⟨j+1,by omega,.inr (Zf.2 ⟨by omega,y,l1,g2,by rw[g3];exact hd⟩)⟩
  cases hf1:folB T (quoE T ch K) v w with
  | false=>exact key v w hv hw hp hr hm hf1
  | true=>
   cases hf2:folB T (quoE T ch K) w v with
   | false=>
    obtain ⟨j,hj,hd⟩:=key w v hw hv hp.symm hr.symm (by omega) hf2;exact ⟨j,hj,hd.symm⟩
   | true=>
    rw[yt.2 ⟨hp,hr,hc,hf1,hf2⟩]at h;cases h
theorem zeh {s:SysF} (hg:GoodS s s.N s.K) {ch:List Int} {v w:Nat} (hv:v<s.tab.length) (hw:w<s.tab.length) (hp:prcT s.tab v=prcT s.tab w) (hr:rndT s.tab v=rndT s.tab w):
  nth (quoL s ch) v≠nth (quoL s ch) w↔∃j,j≤s.K∧(dsB s.tab ch j v w=true∨dsB s.tab ch j w v=true):=by
 constructor
 ·intro h;have hs:samB s.tab ch (quoE s.tab ch s.K) v w=false:=by
   cases hs:samB s.tab ch (quoE s.tab ch s.K) v w with
   | false=>rfl
   | true=>exact absurd ((zej hg hv hw).2 hs) h
  have hk:=Yx hg.tab hv;obtain ⟨j,hj,hd⟩:=zgm hg.tab hg.nodup (s.K - rndT s.tab v) v w hv hw hp hr (by omega) hs;exact ⟨j,by omega,hd⟩
 ·rintro ⟨j,_,hd⟩ e;rcases hd with hd | hd
  ·rw[Yt hg.tab hg.nodup (Xf hg ch) j v w hv hw e]at hd;cases hd
  ·rw[Yt hg.tab hg.nodup (Xf hg ch) j w v hw hv e.symm]at hd;cases hd
def fstL (f:Nat→List Int):Nat→Nat→List Int
 | _,0=>[]
 | k,n+1=>if f k=[] then fstL f (k+1) n else f k
theorem qG {f:Nat→List Int}:∀{n k:Nat},fstL f k n=[]↔∀i,k≤i→i<k+n→f i=[]
 | 0,k=>⟨fun _ i h1 h2=>by omega,fun _=>rfl⟩
 | n+1,k=>by
  rw[show fstL f k (n+1)=if f k=[] then fstL f (k+1) n else f k from rfl];by_cases h:f k=[]
  ·rw[if_pos h,qG];constructor
   ·intro hh i h1 h2;by_cases e:i=k
    ·subst e;exact h
    ·exact hh i (by omega) (by omega)
   ·intro hh i h1 h2;exact hh i (by omega) (by omega)
  ·rw[if_neg h];exact ⟨fun hh=>absurd hh h,fun hh=>hh k (by omega) (by omega)⟩
def pthT (T:List (List Int)) (ch:List Int):Nat→Nat→Int→List Int
 | 0,u,o=>if o<0∨nth ch u≠nth ch o.toNat then [(u:Int)] else []
 | m+1,u,o=>if o<0 then [] else if fstL (fun y=>if hrsB T y u then pthT T ch m y (repT T y u o) else []) 0 T.length=[] then [] else (u:Int)::fstL (fun y=>if hrsB T y u then pthT T ch m y (repT T y u o) else []) 0 T.length
theorem YV {T:List (List Int)} {ch:List Int}:∀{m u:Nat} {o:Int},pthT T ch m u o=[]↔dsB T ch m u o=false
 | 0,u,o=>by
  rw[show pthT T ch 0 u o=if o<0∨nth ch u≠nth ch o.toNat then [(u:Int)] else [] from rfl];constructor
  ·intro h;cases hd:dsB T ch 0 u o with
   | false=>rfl
   | true=>rw[if_pos (ZV.1 hd)]at h;cases h
  ·intro h;rw[if_neg];intro hn;rw[ZV.2 hn]at h;cases h
 | m+1,u,o=>by
  rw[show pthT T ch (m+1) u o=if o<0 then [] else if fstL (fun y=>if hrsB T y u then pthT T ch m y (repT T y u o) else []) 0 T.length=[] then [] else (u:Int)::fstL (fun y=>if hrsB T y u then pthT T ch m y (repT T y u o) else []) 0 T.length from rfl];by_cases h0:o<0
  ·rw[if_pos h0];refine ⟨fun _=>?_,fun _=>rfl⟩;cases hd:dsB T ch (m+1) u o with
   | false=>rfl
   | true=>have:=(Zf.1 hd).1;omega
  ·rw[if_neg h0];by_cases h1:fstL (fun y=>if hrsB T y u then pthT T ch m y (repT T y u o) else []) 0 T.length=[]
   ·rw[if_pos h1];refine ⟨fun _=>?_,fun _=>rfl⟩;cases hd:dsB T ch (m+1) u o with
    | false=>rfl
    | true=>
     obtain ⟨_,y,hy,h2,h3⟩:=Zf.1 hd;have:=qG.1 h1 y (by omega) (by omega);rw[if_pos h2]at this;rw[YV.1 this]at h3;cases h3
   ·rw[if_neg h1];constructor
    ·intro h;cases h
    ·intro h;exfalso
     refine h1 (qG.2 fun y h2 h3=>?_);cases hh:hrsB T y u with
     | false=>rw[if_neg (by simp)]
     | true=>
      rw[if_pos rfl,YV];cases hd:dsB T ch m y (repT T y u o) with
      | false=>rfl
      | true=>rw[Zf.2 ⟨by omega,y,by omega,hh,hd⟩]at h;cases h
def outP (T:List (List Int)) (ch:List Int):Nat→Int→List Int→Bool
 | x,o,[]=>decide (o<0)|| !decide (nth ch x=nth ch o.toNat)
 | x,o,y::r=>decide (0≤o)&&(hrsB T y.toNat x&&outP T ch y.toNat (repT T y.toNat x o) r)
def aprB (T:List (List Int)) (ch:List Int) (v w:Nat):List Int→Bool
 | []=>false
 | x::r=>if x=(w:Int) then outP T ch w v r else if x=(v:Int) then outP T ch v w r else false
theorem ze3 {T:List (List Int)} {ch:List Int}:∀{m u:Nat} {o:Int},pthT T ch m u o≠[]→∃r,pthT T ch m u o=(u:Int)::r∧r.length=m∧outP T ch u o r=true∧∀x∈r,∃y:Nat,x=y∧y<T.length
 | 0,u,o,h=>by
  rw[show pthT T ch 0 u o=if o<0∨nth ch u≠nth ch o.toNat then [(u:Int)] else [] from rfl]at h ⊢;by_cases hc:o<0∨nth ch u≠nth ch o.toNat
  ·rw[if_pos hc];refine ⟨[],rfl,rfl,?_,fun x hx=>by cases hx⟩;show (decide (o<0)|| !decide (nth ch u=nth ch o.toNat))=true;rw[Bool.or_eq_true,decide_eq_true_iff,Bool.not_eq_true',decide_eq_false_iff_not];exact hc
  ·rw[if_neg hc]at h;exact absurd rfl h
 | m+1,u,o,h=>by
  rw[show pthT T ch (m+1) u o=if o<0 then [] else if fstL (fun y=>if hrsB T y u then pthT T ch m y (repT T y u o) else []) 0 T.length=[] then [] else (u:Int)::fstL (fun y=>if hrsB T y u then pthT T ch m y (repT T y u o) else []) 0 T.length from rfl]at h ⊢;by_cases h0:o<0
  ·rw[if_pos h0]at h;exact absurd rfl h
  ·rw[if_neg h0]at h ⊢;by_cases h1:fstL (fun y=>if hrsB T y u then pthT T ch m y (repT T y u o) else []) 0 T.length=[]
   ·rw[if_pos h1]at h;exact absurd rfl h
   ·rw[if_neg h1];have hfs:∀n k,fstL (fun y=>if hrsB T y u then pthT T ch m y (repT T y u o) else []) k n≠[]→∃y,k≤y∧y<k+n∧fstL (fun y=>if hrsB T y u then pthT T ch m y (repT T y u o) else []) k n=(if hrsB T y u then pthT T ch m y (repT T y u o) else []):=by
     intro n;induction n with
     | zero=>intro k hk;exact absurd rfl hk
     | succ n ih=>
      intro k hk;rw[show fstL (fun y=>if hrsB T y u then pthT T ch m y (repT T y u o) else []) k (n+1)=if (if hrsB T k u then pthT T ch m k (repT T k u o) else [])=[] then fstL (fun y=>if hrsB T y u then pthT T ch m y (repT T y u o) else []) (k+1) n else (if hrsB T k u then pthT T ch m k (repT T k u o) else []) from rfl]at hk ⊢;by_cases h2:(if hrsB T k u then pthT T ch m k (repT T k u o) else [])=[]
      ·rw[if_pos h2]at hk ⊢;obtain ⟨y,a,b,c⟩:=ih (k+1) hk;exact ⟨y,by omega,by omega,c⟩
      ·rw[if_neg h2];exact ⟨k,Nat.le_refl _,by omega,rfl⟩
    obtain ⟨y,_,hy,he⟩:=hfs T.length 0 h1;rw[he]at h1 ⊢;cases hh:hrsB T y u with
    | false=>rw[hh,if_neg (by simp)]at h1;exact absurd rfl h1
    | true=>
     rw[hh,if_pos rfl]at h1;obtain ⟨r,a,b,c,d⟩:=ze3 h1;refine ⟨(y:Int)::r,by rw[if_pos rfl,a],by rw[List.length_cons,b],?_,fun x hx=>?_⟩
     ·show (decide (0≤o)&&(hrsB T (y:Int).toNat u&&outP T ch (y:Int).toNat (repT T (y:Int).toNat u o) r))=true;rw[Int.toNat_natCast,hh,c,decide_eq_true (by omega)];rfl
     ·rcases List.mem_cons.1 hx with e | hx
      ·exact ⟨y,e,by omega⟩
      ·exact d x hx
def alkB (T:List (List Int)) (ch:List Int) (v w:Nat):Bool:=(decide (prcT T v=prcT T w)&&decide (rndT T v=rndT T w))&&decide (nth ch v=nth ch w)
theorem ze1 {T:List (List Int)} {ch:List Int} {v w:Nat}:alkB T ch v w=true↔(prcT T v=prcT T w∧rndT T v=rndT T w)∧nth ch v=nth ch w:=by
 unfold alkB;rw[Bool.and_eq_true,Bool.and_eq_true,decide_eq_true_iff,decide_eq_true_iff,decide_eq_true_iff]
def labP (T:List (List Int)) (ch:List Int) (K m j u:Nat):Int:=if rndT T u+m=K∧u<j then ((lstV T ch (quoF T ch K m) u:Nat):Int) else quoF T ch K m u
theorem Y2 (T:List (List Int)) (ch:List Int) (K m:Nat):labP T ch K m 0=quoF T ch K m:=by
 funext u;unfold labP;rw[if_neg (by omega)]
theorem zdH {T:List (List Int)} {ch:List Int} {K m u:Nat} (hu:u<T.length):labP T ch K m T.length u=quoF T ch K (m+1) u:=by
 unfold labP;show _=if rndT T u+m=K then ((lstV T ch (quoF T ch K m) u:Nat):Int) else quoF T ch K m u;by_cases h:rndT T u+m=K
 ·rw[if_pos ⟨h,hu⟩,if_pos h]
 ·rw[if_neg (fun e=>h e.1),if_neg h]
theorem zeW {T:List (List Int)} {ch:List Int} {K m j:Nat} (h:rndT T j+m≠K):labP T ch K m (j+1)=labP T ch K m j:=by
 funext u
 unfold labP;by_cases h1:rndT T u+m=K∧u<j
 ·rw[if_pos h1,if_pos ⟨h1.1,by omega⟩]
 ·rw[if_neg h1,if_neg];rintro ⟨a,b⟩;refine h1 ⟨a,?_⟩;have:u≠j:=fun e=>h (e▸a);omega
theorem zez {T:List (List Int)} {ch:List Int} {K m j:Nat} (h:rndT T j+m=K) (u:Nat):labP T ch K m (j+1) u=if u=j then ((lstV T ch (quoF T ch K m) j:Nat):Int) else labP T ch K m j u:=by
 unfold labP;by_cases e:u=j
 ·subst e;rw[if_pos ⟨h,by omega⟩,if_pos rfl]
 ·rw[if_neg e];by_cases h1:rndT T u+m=K∧u<j
  ·rw[if_pos h1,if_pos ⟨h1.1,by omega⟩]
  ·rw[if_neg h1,if_neg];rintro ⟨a,b⟩;exact h1 ⟨a,by omega⟩
structure LabI (T:List (List Int)) (ch:List Int) (K m j:Nat) (L:List Int):Prop where
 len:L.length=T.length
 at':∀u,u<T.length→nth L u=labP T ch K m j u
structure LabA (T:List (List Int)) (ch:List Int) (K m:Nat) (L:List Int):Prop where
 len:L.length=T.length
 at':∀u,u<T.length→K<rndT T u+m→nth L u=quoF T ch K m u
theorem LabI.a {T:List (List Int)} {ch:List Int} {K m j:Nat} {L:List Int} (h:LabI T ch K m j L):LabA T ch K m L:=⟨h.len,fun u hu hk=>by
 rw[h.at' u hu];unfold labP;rw[if_neg (by omega)]⟩
theorem nthSet {l:List Int} {i j:Nat} {b:Int} (hi:i<l.length):nth (l.set i b) j=if j=i then b else nth l j:=by
 unfold nth;rw[List.getD_eq_getElem?_getD,List.getD_eq_getElem?_getD,List.getElem?_set];by_cases e:i=j
 ·subst e;rw[if_pos rfl,if_pos hi,if_pos rfl];rfl
 ·rw[if_neg e,if_neg (fun h=>e h.symm)]
theorem LabA.set {T:List (List Int)} {ch:List Int} {K m v:Nat} {L:List Int} (h:LabA T ch K m L) (hv:v<T.length) (hk:rndT T v+m=K) (x:Int):LabA T ch K m (L.set v x):=⟨by rw[List.length_set];exact h.len,fun u hu hku=>by
 rw[nthSet (by rw[h.len];exact hv),if_neg (by intro e;subst e;omega)];exact h.at' u hu hku⟩
theorem LabI.start {T:List (List Int)} {ch:List Int} {K m:Nat} {L:List Int} (h:LabI T ch K m T.length L):LabI T ch K (m+1) 0 L:=⟨h.len,fun u hu=>by rw[h.at' u hu,zdH hu,Y2]⟩
theorem LabI.skip {T:List (List Int)} {ch:List Int} {K m j:Nat} {L:List Int} (h:LabI T ch K m j L) (hj:rndT T j+m≠K):LabI T ch K m (j+1) L:=⟨h.len,fun u hu=>by rw[zeW hj];exact h.at' u hu⟩
theorem LabI.step {T:List (List Int)} {ch:List Int} {K m j:Nat} {L:List Int} (h:LabI T ch K m j L) (hj:rndT T j+m=K) (hjl:j<T.length):LabI T ch K m (j+1) (L.set j ((lstV T ch (quoF T ch K m) j:Nat):Int)):=⟨by rw[List.length_set];exact h.len,fun u hu=>by
 rw[nthSet (by rw[h.len];exact hjl),zez hj,h.at' u hu]⟩
theorem LabI.zero (T:List (List Int)) (ch:List Int) (K:Nat):LabI T ch K 0 0 (List.replicate T.length 0):=⟨by simp,fun u hu=>by
 rw[Y2];show nth (List.replicate T.length 0) u=0;simp[nth,hu]⟩
theorem LabI.done {T:List (List Int)} {ch:List Int} {K:Nat} {L:List Int} (h:LabI T ch K (K+1) 0 L):L=keys (quoE T ch K) T.length:=by
 apply List.ext_getElem
 ·rw[length_keys,h.len]
 ·intro i h1 h2;have h3:i<T.length:=by rw[←h.len];exact h1
  have:=h.at' i h3;rw[yv h1,Y2]at this;rw[this];simp[keys,quoE]
theorem zea {N K:Nat} {T:List (List Int)} (hT:TabOK N K T) {ch L:List Int} {m v w:Nat} (hL:LabA T ch K m L) (hk:rndT T v+m=K) (hv:v<T.length) (hw:w<T.length) (hp:prcT T v=prcT T w) (hr:rndT T v=rndT T w):folB T (nth L) v w=folB T (quoF T ch K m) v w:=
 YE hT hv hw hp (fun u hu h=>hL.at' u hu (by omega)) hr
theorem zgv {N K:Nat} {T:List (List Int)} (hT:TabOK N K T) {ch L:List Int} {m v w:Nat} (hL:LabA T ch K m L) (hk:rndT T v+m=K) (hv:v<T.length) (hw:w<T.length):samB T ch (nth L) v w=samB T ch (quoF T ch K m) v w:=by
 by_cases hpr:prcT T v=prcT T w∧rndT T v=rndT T w
 ·unfold samB;rw[zea hT hL hk hv hw hpr.1 hpr.2,zea hT hL (by omega) hw hv hpr.1.symm hpr.2.symm]
 ·unfold samB;have:(decide (prcT T v=prcT T w)&&decide (rndT T v=rndT T w))=false:=by
   rw[Bool.and_eq_false_iff,decide_eq_false_iff_not,decide_eq_false_iff_not];by_cases h1:prcT T v=prcT T w
   ·exact .inr fun h2=>hpr ⟨h1,h2⟩
   ·exact .inl h1
  rw[this];rfl
def firL (T:List (List Int)) (ch:List Int) (K m j:Nat):List Nat:=(List.range j).filter fun w=>decide (rndT T w+m=K)&&decide (lstV T ch (quoF T ch K m) w=w)
theorem zbp {T:List (List Int)} {ch:List Int} {K m j w:Nat}:w∈firL T ch K m j↔w<j∧rndT T w+m=K∧lstV T ch (quoF T ch K m) w=w:=by
 unfold firL;rw[List.mem_filter,List.mem_range,Bool.and_eq_true,decide_eq_true_iff,decide_eq_true_iff]
theorem zgb (T:List (List Int)) (ch:List Int) (K m j:Nat):(firL T ch K m j).length≤j:=by
 unfold firL;exact Nat.le_trans (List.length_filter_le _ _) (by simp)
theorem zfG {T:List (List Int)} {ch:List Int} {K m j:Nat} (h:rndT T j+m≠K):firL T ch K m (j+1)=firL T ch K m j:=by
 unfold firL;rw[List.range_succ,List.filter_append,List.filter_cons,decide_eq_false h];simp
theorem zgh {T:List (List Int)} {ch:List Int} {K m j:Nat} (h:lstV T ch (quoF T ch K m) j≠j):firL T ch K m (j+1)=firL T ch K m j:=by
 unfold firL;rw[List.range_succ,List.filter_append,List.filter_cons,decide_eq_false h];simp
theorem zgA {T:List (List Int)} {ch:List Int} {K m j:Nat} (h0:rndT T j+m=K) (h:lstV T ch (quoF T ch K m) j=j):firL T ch K m (j+1)=firL T ch K m j++[j]:=by
 unfold firL;rw[List.range_succ,List.filter_append,List.filter_cons,decide_eq_true h,decide_eq_true h0];rfl
theorem zf5 {N K:Nat} {T:List (List Int)} (hT:TabOK N K T) (hn:T.Nodup) {ch:List Int} {m v w:Nat} (hv:v<T.length) (hw:w∈firL T ch K m v) (h:samB T ch (quoF T ch K m) v w=true):lstV T ch (quoF T ch K m) v=w:=by
 obtain ⟨h1,_,h3⟩:=zbp.1 hw;exact (zeR hT hn hv (by omega) h3 h).symm
theorem zfJ {N K:Nat} {T:List (List Int)} (hT:TabOK N K T) (hn:T.Nodup) {ch:List Int} {m v:Nat} (hv:v<T.length) (hk:rndT T v+m=K) (h:∀w∈firL T ch K m v,samB T ch (quoF T ch K m) v w=false):lstV T ch (quoF T ch K m) v=v:=by
 obtain ⟨a1,a2,_⟩:=yB hn ch (quoF T ch K m) v;apply Decidable.byContradiction;intro hne;have hr:=(yt.1 a2).2.1;have:=h _ (zbp.2 ⟨by omega,by omega,zfI hT hn hv⟩);rw[a2]at this;cases this
def disF (T:List (List Int)) (ch:List Int) (a b m:Nat):List Int:=if pthT T ch m a b=[] then pthT T ch m b a else pthT T ch m a b
def disL (T:List (List Int)) (ch:List Int) (K a b:Nat):List Int:=fstL (disF T ch a b) 0 (K+1)
theorem zch {T:List (List Int)} {ch:List Int} {a b m:Nat}:disF T ch a b m=[]↔dsB T ch m a b=false∧dsB T ch m b a=false:=by
 unfold disF;by_cases h:pthT T ch m a b=[]
 ·rw[if_pos h,YV];exact ⟨fun h2=>⟨YV.1 h,h2⟩,fun h2=>h2.2⟩
 ·rw[if_neg h];exact ⟨fun h2=>absurd h2 h,fun h2=>absurd (YV.2 h2.1) h⟩
theorem zd9 {s:SysF} (hg:GoodS s s.N s.K) {ch:List Int} {v w:Nat} (hv:v<s.tab.length) (hw:w<s.tab.length) (hp:prcT s.tab v=prcT s.tab w) (hr:rndT s.tab v=rndT s.tab w):disL s.tab ch s.K v w=[]↔nth (quoL s ch) v=nth (quoL s ch) w:=by
 unfold disL;rw[qG];constructor
 ·intro h;apply Classical.byContradiction;intro hne;obtain ⟨j,hj,hd⟩:=(zeh hg hv hw hp hr).1 hne;obtain ⟨h1,h2⟩:=zch.1 (h j (by omega) (by omega));rcases hd with hd | hd
  ·rw[h1]at hd;cases hd
  ·rw[h2]at hd;cases hd
 ·intro h i _ hi;rw[zch];constructor
  ·exact Yt hg.tab hg.nodup (Xf hg ch) i v w hv hw h
  ·exact Yt hg.tab hg.nodup (Xf hg ch) i w v hw hv h.symm
end Go.Proofs.YtiabbjolepnjkaaGreat
namespace Go.Proofs.YtiabbjolepnjkaaGreat
open Go.RowKit
attribute [local go_sem ↓] Go.wp_at_zero Go.wp_at_succ
theorem qI {N K:Nat} {T:List (List Int)} (hT:TabOK N K T) {u:Nat} (hu:u<T.length):(nthL T u).length=8:=by
 obtain ⟨q,k,h⟩:=hT.2 u hu;exact h.len
theorem yG {N K:Nat} {T:List (List Int)} (hT:TabOK N K T) {u:Nat} (hu:u<T.length):nth (nthL T u) 0=(prcT T u:Int)∧prcT T u<5∧prcT T u<N:=by
 obtain ⟨q,k,h⟩:=hT.2 u hu;have:=h.ql;have:=hT.1;rw[h.prc];exact ⟨h.q0,by omega,by omega⟩
theorem ym {N K:Nat} {T:List (List Int)} (hT:TabOK N K T) {u:Nat} (hu:u<T.length):nth (nthL T u) 1=(rndT T u:Int)∧rndT T u≤K:=by
 obtain ⟨q,k,h⟩:=hT.2 u hu;rw[h.rnd];exact ⟨h.k0,h.kl⟩
theorem XT {x:List Int} (h:x.length=8) {j:Nat} (hj:j<5) (b:Int):(x.map (Value.int .i64)).set (3+j) (.int .i64 b)=(x.set (3+j) b).map (Value.int .i64):=by rw[List.map_set]
theorem zdM {x:List Int} (h:x.length=8) (hw:∀y∈x,WF y) {j:Nat} {b:Int} (hb:WF b):ViewOK (x.set j b):=⟨by rw[List.length_set];exact h,fun y hy=>by
 rcases List.mem_or_eq_of_mem_set hy with h1 | h1
 ·exact hw y h1
 ·rw[h1];exact hb⟩
theorem zge {S:Nat→Prop} {w:World} {v:Value} {T:List (List Int)} (h:Sl (kFlat 8) S w v T) {u:Nat} (hu:u<T.length):∀y∈nthL T u,WF y:=by
 obtain ⟨a,c,rfl,_⟩:=h.form;exact (h.num hu).2.1
theorem Qx {S:Nat→Prop} {w:World} {v:Value} {s:SysF} {u x:Nat} {b:Int} (h:SysV S w v s) (hg:GoodS s s.N s.K) (hu:u<s.tab.length) (hx':x<s.tab.length) (hb:WF b):
  Calls Tryz.prog 92 #[v,u,x,b] w (Post w fun _ r=>r=.int .i64 (repT s.tab u x b)):=by
 obtain ⟨ca,cc,sa,sc,ta,tc,xa,xc,rfl,hc,hs,ht,hx⟩:=h.zf;obtain ⟨_,_,hee,tad,_⟩:=ht.form2;cases hee;obtain ⟨i0,hi,hz⟩:=zI zP;have HQ:=zhd (zH Tryz.underlying30 hi hz tad);have HX:Hid (∀(W:World) (y:List Int),Below w.heap.size w W→ViewOK y→Calls Tryz.prog 124 #[.agg #[s.tn,.slice ta s.tab.length tc],.agg #[nth y 0,nth y 1,nth y 2,nth y 3,nth y 4,nth y 5,nth y 6,nth y 7]] W (Post W fun _ r=>r=.int .i64 (if y∈s.tab then (idxV s.tab y:Nat) else -1))):=zhd fun W y hW hy=>Ya s.tn (ht.ext hW) hy;have HTB:=zhd hg.tab;obtain ⟨e0,p5,_⟩:=yG HTB.out hx';have l8:=qI HTB.out hu;have HVO:=zhd (zdM l8 (zge ht hu) (j:=3+prcT s.tab x) hb);have HR:Hid (repT s.tab u x b=(if (nthL s.tab u).set (3+prcT s.tab x) b∈s.tab then ((idxV s.tab ((nthL s.tab u).set (3+prcT s.tab x) b):Nat):Int) else -1)):=zhd rfl;have HXX:=zhd (fun W hW=>HX.out W _ hW HVO.out);rw[←HR.out]at HXX;obtain ⟨r,hr⟩:=zn (repT s.tab u x b);rw[←hr]at HXX ⊢;obtain ⟨y,hy⟩:=zn (nthL s.tab u);obtain ⟨q,hq⟩:=zn (prcT s.tab x);rw[←hq]at e0 p5 HXX;rw[←hy]at l8 HXX;obtain ⟨ex,R0⟩:=zb1 w [s.p.n,s.p.ins,s.p.outs,.slice ca s.p.cs.length cc,s.p.an,.slice sa s.p.st.length sc,s.p.rounds,s.tn,.slice ta s.tab.length tc,.slice xa s.ex.length xc] 35;have HT:=zhd (ht.ext ex);have uq:=HQ.out u hu;have xq:=HQ.out x hx';obtain ⟨u0,ur⟩:=HT.out.nums (k:=u) hu (by decide);have x0:=(HT.out.nums (k:=x) hx' (by decide)).1;rw[e0]at x0;rw[←hy]at u0 ur;have u1:=ur 1 (by decide);have u2:=ur 2 (by decide);have u3:=ur 3 (by decide);have u4:=ur 4 (by decide);have u5:=ur 5 (by decide);have u6:=ur 6 (by decide);have u7:=ur 7 (by decide);have bu:=World.block_lt_of_cell? _ _ u0;have bx:=World.block_lt_of_cell? _ _ x0;obtain ⟨t0,t1,t2,t3,t4,t5,t6,t7,t8,t9⟩:=R0.ten;have l0:=R0.lt;have ex2:=zg ex (.cells #[nth y 0,nth y 1,nth y 2,nth y 3,nth y 4,nth y 5,nth y 6,nth y 7] 65);have RX:Row ((w.alloc (.cells #[s.p.n,s.p.ins,s.p.outs,.slice ca s.p.cs.length cc,s.p.an,.slice sa s.p.st.length sc,s.p.rounds,s.tn,.slice ta s.tab.length tc,.slice xa s.ex.length xc] 35)).alloc (.cells #[nth y 0,nth y 1,nth y 2,nth y 3,nth y 4,nth y 5,nth y 6,nth y 7] 65)) (w.heap.size+1) 65 (y.map (Value.int .i64)):=by
  have:=zh (w.alloc (.cells #[s.p.n,s.p.ins,s.p.outs,.slice ca s.p.cs.length cc,s.p.an,.slice sa s.p.st.length sc,s.p.rounds,s.tn,.slice ta s.tab.length tc,.slice xa s.ex.length xc] 35)) [nth y 0,nth y 1,nth y 2,nth y 3,nth y 4,nth y 5,nth y 6,nth y 7] 65;rw[World.size_alloc]at this;rw[cells8 l8];exact this
 have xi:=yX (w.heap.size+1) 3 p5;have HL8:=zhd l8;clear ur hc hs ht hx tad hi hz hr hy hq e0 hg HQ HT HX HR HVO HTB hb l8 hu hx';go_enter Tryz.func92,Tryz.ntmps92;go_upto_region 2 with fail;obtain ⟨wx,hwx⟩:=zn ((w.alloc (.cells #[s.p.n,s.p.ins,s.p.outs,.slice ca s.p.cs.length cc,s.p.an,.slice sa s.p.st.length sc,s.p.rounds,s.tn,.slice ta s.tab.length tc,.slice xa s.ex.length xc] 35)).alloc (.cells #[nth y 0,nth y 1,nth y 2,nth y 3,nth y 4,nth y 5,nth y 6,nth y 7] 65));obtain ⟨B1,hB1⟩:=zn (w.heap.size+1);replace R0:=R0.alloc (.cells #[nth y 0,nth y 1,nth y 2,nth y 3,nth y 4,nth y 5,nth y 6,nth y 7] 65);replace x0:=zi x0 (ze (w.alloc (.cells #[s.p.n,s.p.ins,s.p.outs,.slice ca s.p.cs.length cc,s.p.an,.slice sa s.p.st.length sc,s.p.rounds,s.tn,.slice ta s.tab.length tc,.slice xa s.ex.length xc] 35)) (.cells #[nth y 0,nth y 1,nth y 2,nth y 3,nth y 4,nth y 5,nth y 6,nth y 7] 65));rw[←hB1]at RX xi ⊢;rw[←hwx]at RX R0 ex2 x0 ⊢;have hB1w:w.heap.size≤B1:=by omega
 have hB1n:some B1≠some w.heap.size:=by intro e;injection e;omega
 clear hwx hB1 u0 u1 u2 u3 u4 u5 u6 u7 bu bx t0 t1 t2 t3 t4 t5 t6 t7 t8 t9 l0 ex;have R02:=R0.grown (zm wx B1 (3+q) (.int .i64 b)) hB1n;have RX2:=RX.set (3+q) (.int .i64 b);rw[XT HL8.out p5,cells8 (show (y.set (3+q) b).length=8 by rw[List.length_set];exact HL8.out)]at RX2;have ex3:=ex2.setCell (p:=⟨B1,3+q,none⟩) hB1w (.int .i64 b);have cx:wx.cell? ⟨B1,3+q,none⟩=some (.int .i64 (nth y (3+q))):=RX.cell (by rw[List.getElem?_map,get?_nth (by rw[HL8.out];omega)];rfl);have fx:=RX.free (3+q);have lx:=RX.lt;have bx:=World.block_lt_of_cell? _ _ x0;obtain ⟨t0,t1,t2,t3,t4,t5,t6,t7,t8,t9⟩:=R0.ten;have l0:=R0.lt;clear R0 RX ex2;go_upto_region 3 with fail;clear t0 t1 t2 t3 t4 t5 t6 t7 t8 t9 l0 x0 cx fx lx bx xq xi uq;obtain ⟨W2,hW2⟩:=zn (wx.setCell ⟨B1,3+q,none⟩ (.int .i64 b));rw[←hW2]at R02 RX2 ex3 ⊢;clear hW2;obtain ⟨t0,t1,t2,t3,t4,t5,t6,t7,t8,t9⟩:=R02.ten;have l0:=R02.lt;have z0:=RX2.zc 0 rfl;have z1:=RX2.zc 1 rfl;have z2:=RX2.zc 2 rfl;have z3:=RX2.zc 3 rfl;have z4:=RX2.zc 4 rfl;have z5:=RX2.zc 5 rfl;have z6:=RX2.zc 6 rfl;have z7:=RX2.zc 7 rfl;have lz:=RX2.lt;have HE:=zhd ex3;have KX:=zhd (HXX.out W2 ex3);clear R02 RX2 ex3 HXX;go_wp2_with fail;refine KX.out.mono ?_;rintro _ W3 ⟨_,rfl,hb3,rfl⟩;have HE3:=zhd (za HE.out hb3);clear t0 t1 t2 t3 t4 t5 t6 t7 t8 t9 l0 z0 z1 z2 z3 z4 z5 z6 z7 lz hb3;go_wp2;go_ret;exact .mk HE3.out rfl
theorem xj {S:Nat→Prop} {w:World} {v:Value} {s:SysF} {u x:Nat} (h:SysV S w v s) (hg:GoodS s s.N s.K) (hu:u<s.tab.length) (hx':x<s.tab.length):
  Calls Tryz.prog 91 #[v,u,x] w (Post w fun _ r=>r=.bool (hrsB s.tab u x)):=by
 obtain ⟨ca,cc,sa,sc,ta,tc,xa,xc,rfl,hc,hs,ht,hx⟩:=h.zf;obtain ⟨_,_,hee,tad,_⟩:=ht.form2;cases hee;obtain ⟨i0,hi,hz⟩:=zI zP;have HQ:=zhd (zH Tryz.underlying30 hi hz tad);have HTB:=zhd hg.tab;obtain ⟨e0,p5,_⟩:=yG HTB.out hx';obtain ⟨e1,_⟩:=ym HTB.out hx';obtain ⟨e2,_⟩:=ym HTB.out hu;have hK:=hg.K6;have l8:=qI HTB.out hu;obtain ⟨f1,f2⟩:=ym HTB.out hu;obtain ⟨g1,g2⟩:=ym HTB.out hx';have HR:Hid (hrsB s.tab u x=(decide (rndT s.tab u=rndT s.tab x+1)&&decide (nth (nthL s.tab u) (3+prcT s.tab x)=(x:Int)))):=zhd (by
  cases hh:hrsB s.tab u x with
  | true=>rw[decide_eq_true (ZS HTB.out hu hx' hh),decide_eq_true (xp.1 hh)];rfl
  | false=>
   have:¬nth (nthL s.tab u) (3+prcT s.tab x)=(x:Int):=fun e=>by rw[xp.2 e]at hh;cases hh
   rw[decide_eq_false this,Bool.and_false])
 obtain ⟨r,hr⟩:=zn (hrsB s.tab u x);rw[←hr]at HR ⊢;obtain ⟨y,hy⟩:=zn (nthL s.tab u);obtain ⟨q,hq⟩:=zn (prcT s.tab x);obtain ⟨ru,hru⟩:=zn (rndT s.tab u);obtain ⟨rx,hrx⟩:=zn (rndT s.tab x);rw[←hq,←hy,←hru,←hrx]at HR;rw[←hq]at e0 p5;rw[←hrx]at e1 g2;rw[←hru]at e2 f2;rw[←hy]at l8 e2;obtain ⟨ex,R0⟩:=zb1 w [s.p.n,s.p.ins,s.p.outs,.slice ca s.p.cs.length cc,s.p.an,.slice sa s.p.st.length sc,s.p.rounds,s.tn,.slice ta s.tab.length tc,.slice xa s.ex.length xc] 35;have HT:=zhd (ht.ext ex);have uq:=HQ.out u hu;have xq:=HQ.out x hx';obtain ⟨u0,ur⟩:=HT.out.nums (k:=u) hu (by decide);obtain ⟨x0,xr⟩:=HT.out.nums (k:=x) hx' (by decide);have x1:=xr 1 (by decide);rw[e0]at x0;rw[e1]at x1;rw[←hy]at u0 ur;have u1:=ur 1 (by decide);have u2:=ur 2 (by decide);have u3:=ur 3 (by decide);have u4:=ur 4 (by decide);have u5:=ur 5 (by decide);have u6:=ur 6 (by decide);have u7:=ur 7 (by decide);have bu:=World.block_lt_of_cell? _ _ u0;have bx:=World.block_lt_of_cell? _ _ x0;obtain ⟨t0,t1,t2,t3,t4,t5,t6,t7,t8,t9⟩:=R0.ten;have l0:=R0.lt;have ex2:=zg ex (.cells #[nth y 0,nth y 1,nth y 2,nth y 3,nth y 4,nth y 5,nth y 6,nth y 7] 65);have RX:Row ((w.alloc (.cells #[s.p.n,s.p.ins,s.p.outs,.slice ca s.p.cs.length cc,s.p.an,.slice sa s.p.st.length sc,s.p.rounds,s.tn,.slice ta s.tab.length tc,.slice xa s.ex.length xc] 35)).alloc (.cells #[nth y 0,nth y 1,nth y 2,nth y 3,nth y 4,nth y 5,nth y 6,nth y 7] 65)) (w.heap.size+1) 65 (y.map (Value.int .i64)):=by
  have:=zh (w.alloc (.cells #[s.p.n,s.p.ins,s.p.outs,.slice ca s.p.cs.length cc,s.p.an,.slice sa s.p.st.length sc,s.p.rounds,s.tn,.slice ta s.tab.length tc,.slice xa s.ex.length xc] 35)) [nth y 0,nth y 1,nth y 2,nth y 3,nth y 4,nth y 5,nth y 6,nth y 7] 65;rw[World.size_alloc]at this;rw[cells8 l8];exact this
 have xi:=yX (w.heap.size+1) 3 p5;have HL8:=zhd l8;have HE2:=zhd e2;have hw1:ru≤6:=by omega
 have hw2:rx≤6:=by omega
 clear ur xr hc hs ht hx tad hi hz hr hy hq hru hrx e0 e1 hg HQ HTB l8 hu hx' hK f1 f2 g1 g2 e2;go_enter Tryz.func91,Tryz.ntmps91;go_upto_region 2 with fail;obtain ⟨wx,hwx⟩:=zn ((w.alloc (.cells #[s.p.n,s.p.ins,s.p.outs,.slice ca s.p.cs.length cc,s.p.an,.slice sa s.p.st.length sc,s.p.rounds,s.tn,.slice ta s.tab.length tc,.slice xa s.ex.length xc] 35)).alloc (.cells #[nth y 0,nth y 1,nth y 2,nth y 3,nth y 4,nth y 5,nth y 6,nth y 7] 65));obtain ⟨B1,hB1⟩:=zn (w.heap.size+1);replace R0:=R0.alloc (.cells #[nth y 0,nth y 1,nth y 2,nth y 3,nth y 4,nth y 5,nth y 6,nth y 7] 65);replace x0:=zi x0 (ze (w.alloc (.cells #[s.p.n,s.p.ins,s.p.outs,.slice ca s.p.cs.length cc,s.p.an,.slice sa s.p.st.length sc,s.p.rounds,s.tn,.slice ta s.tab.length tc,.slice xa s.ex.length xc] 35)) (.cells #[nth y 0,nth y 1,nth y 2,nth y 3,nth y 4,nth y 5,nth y 6,nth y 7] 65));replace x1:=zi x1 (ze (w.alloc (.cells #[s.p.n,s.p.ins,s.p.outs,.slice ca s.p.cs.length cc,s.p.an,.slice sa s.p.st.length sc,s.p.rounds,s.tn,.slice ta s.tab.length tc,.slice xa s.ex.length xc] 35)) (.cells #[nth y 0,nth y 1,nth y 2,nth y 3,nth y 4,nth y 5,nth y 6,nth y 7] 65));rw[←hB1]at RX xi ⊢;rw[←hwx]at RX R0 ex2 x0 x1 ⊢;clear hwx hB1 u0 u1 u2 u3 u4 u5 u6 u7 bu bx t0 t1 t2 t3 t4 t5 t6 t7 t8 t9 l0 ex uq;have HE:=zhd (fun n=>za ex2 (zb wx.heap.size wx n));have y1:wx.cell? ⟨B1,1,none⟩=some (.int .i64 (ru:Int)):=by rw[←HE2.out];exact RX.cell (by rw[List.getElem?_map,get?_nth (by rw[HL8.out];omega)];rfl)
 have y2:wx.cell? ⟨B1,3+q,none⟩=some (.int .i64 (nth y (3+q))):=RX.cell (by rw[List.getElem?_map,get?_nth (by rw[HL8.out];omega)];rfl);have lx:=RX.lt;have bx:=World.block_lt_of_cell? _ _ x0;obtain ⟨t0,t1,t2,t3,t4,t5,t6,t7,t8,t9⟩:=R0.ten;have l0:=R0.lt;clear R0 RX ex2;obtain ⟨z,hzz⟩:=zn (nth y (3+q));rw[←hzz]at y2 HR;clear hzz;by_cases d:ru=rx+1
 ·have d1:((ru:Int)==(rx:Int)+1)=true:=by rw[beq_iff_eq];omega
  have HR1:Hid (r=(z==(x:Int))):=zhd (by rw[HR.out,decide_eq_true d,Bool.true_and];exact (by rw[Bool.eq_iff_iff];simp));clear HR d;go_quiet (fail);go_wp2;go_ret;exact .mk (HE.out _) (zy HR1.out.symm)
 ·have d1:((ru:Int)==(rx:Int)+1)=false:=by rw[beq_eq_false_iff_ne];omega
  have HR1:Hid (r=false):=zhd (by rw[HR.out,decide_eq_false d,Bool.false_and]);clear HR d;go_quiet (fail);go_wp2;go_ret;exact .mk (HE.out _) (zy HR1.out.symm)
theorem zeO {T:List (List Int)} {lab:Nat→Int} {v w k:Nat} (hk:k<T.length) (hh:hrsB T k v=true) (h:¬(0≤repT T k v w∧lab (repT T k v w).toNat=lab k)):folB T lab v w=false:=by
 cases e:folB T lab v w with
 | false=>rfl
 | true=>exact absurd (yp.1 e k hk hh) h
theorem zg9 (m:Nat):(m=0∧Value.int .i64 ((m:Int) - 1)=.int .i64 (-1))∨∃k,m=k+1∧Value.int .i64 ((m:Int) - 1)=.int .i64 (k:Int):=by
 cases m with
 | zero=>exact .inl ⟨rfl,rfl⟩
 | succ k=>exact .inr ⟨k,rfl,zj (by omega)⟩
theorem rowInt {w:World} {g:Nat} {t:TypeId} {l:List Int} (R:Row w g t (l.map (Value.int .i64))) {k:Nat} (h:k<l.length):w.cell? ⟨g,k,none⟩=some (.int .i64 (nth l k)):=R.cell (j:=k) (by rw[List.getElem?_map,get?_nth h];rfl)
theorem rowSet {w:World} {g:Nat} {t:TypeId} {l:List Int} (R:Row w g t (l.map (Value.int .i64))) (k:Nat) (x:Int):Row (w.setCell ⟨g,k,none⟩ (.int .i64 x)) g t ((l.set k x).map (Value.int .i64)):=by
 rw[List.map_set];exact R.set k _
theorem zdV {N K:Nat} {T:List (List Int)} (hT:TabOK N K T) (hn:T.Nodup) {ch:List Int} (hm:T.length≤100000):∀{m u:Nat},u<T.length→WF (quoF T ch K m u)
 | 0,u,hu=>WF.small (show -1000000000≤(0:Int)∧(0:Int)≤1000000000 by decide)
 | m+1,u,hu=>by
  show WF (if rndT T u+m=K then ((lstV T ch (quoF T ch K m) u:Nat):Int) else quoF T ch K m u);split
  ·have:=(yB hn ch (quoF T ch K m) u).1;exact WF.small (by omega)
  ·exact zdV hT hn hm hu
theorem zgV {N K:Nat} {T:List (List Int)} (hT:TabOK N K T) (hn:T.Nodup) {ch:List Int} (hm:T.length≤100000) {m j u:Nat} (hu:u<T.length):WF (labP T ch K m j u):=by
 unfold labP;split
 ·have:=(yB hn ch (quoF T ch K m) u).1;exact WF.small (by omega)
 ·exact zdV hT hn hm hu
theorem zgj {T:List (List Int)} (ch:List Int) (K:Nat) (hm:T.length≤100000) (hn:T.Nodup) {N:Nat} (hT:TabOK N K T):∀x∈keys (quoE T ch K) T.length,WF x:=fun x hx=>by
 obtain ⟨i,hi,rfl⟩:=Xs.1 hx;rw[zbJ hT hi];have:=(yB hn ch (quoF T ch K (K - rndT T i)) i).1;exact WF.small (by omega)
def ClaR (B:Nat) (s:SysF) (ch:List Int) (w':World) (r:Value):Prop:=(ruleE s ch=0∧∃u,r=.tuple #[u,.int .i64 0]∧Ints (fun b=>B≤b) w' u (quoL s ch))∨(ruleE s ch≠0∧r=.tuple #[.slice none 0 0,ruleE s ch])
def sizA (s:SysF) (ch:List Int):Int:=if ruleE s ch=0 then numS (quoL s ch) else 0
theorem tup2 {a a' b b':Int} (h:a=a') (h':b=b'):Value.tuple #[a,b]=Value.tuple #[a',b']:=by rw[h,h']
theorem yc {S:Nat→Prop} {w:World} {v:Value} {s:SysF} {ch:List Int} (h:SysV S w v s) (h0:ruleE s ch=0):GoodS s s.N s.K∧ch.length=s.tab.length:=⟨Xo (zcc h0).1 h.moves8,(zcc h0).2.1⟩
theorem zdz {s:SysF} {ch:List Int} (hm:s.tab.length≤65536):Good (quoL s ch):=zdG (by rw[length_keys];exact hm)
theorem zr {P:Program} {Q:Exit→Act→World→Prop} {md:Region.Mode} {S:World→Prop} {X:Nat→Bool} {l:List Oper} (i:Nat) {oi:Oper} {fuel:Nat} {listed:Array Bool} {a:Act} {w:World} (hi:l[i]? =some oi)
  (hf:(Region.noSelect l.toArray&&(Region.free md l.toArray listed i&&((Region.ready md l.toArray listed).contains i&&waitFor md l.toArray X i)))=true)
  (hQ:∀c a w,Q (.panic c) (a.put oi.dst undef) w→Q (.panic c) a w) (hw:Region.wanted oi (yielded l.toArray a.tmps)=false) (hS:S w)
  (h:AnyE P md l.toArray Q S X fuel (listed.setIfInBounds i true) (a.put oi.dst undef) w):AnyE P md l.toArray Q S X (fuel+1) listed a w:=by
 simp only[Bool.and_eq_true]at hf;exact Qq (by simpa using hi) hf.1 (by simp only[Bool.and_eq_true];exact hf.2) hQ (.inr ⟨hw,rfl⟩) hS h
def fitP (T:List (List Int)) (ch cl:List Int) (v w:Nat):Prop:=v≠w→nth cl v=nth cl w→alkB T ch v w=true∧folB T (nth cl) v w=true
def fitB (T:List (List Int)) (ch cl:List Int):Bool:=(List.range T.length).all fun v=>(List.range T.length).all fun w=>decide (v=w)||(!decide (nth cl v=nth cl w)||(alkB T ch v w&&folB T (nth cl) v w))
theorem zbR {T:List (List Int)} {ch cl:List Int}:fitB T ch cl=true↔∀v w,v<T.length→w<T.length→fitP T ch cl v w:=by
 unfold fitB fitP;simp only[List.all_eq_true,List.mem_range,Bool.or_eq_true,Bool.and_eq_true,Bool.not_eq_true',decide_eq_true_iff,decide_eq_false_iff_not];constructor
 ·intro h v w hv hw hne hc;rcases h v hv w hw with h1 | h1 | h1
  ·exact absurd h1 hne
  ·exact absurd hc h1
  ·exact h1
 ·intro h v hv w hw;by_cases e:v=w
  ·exact .inl e
  ·by_cases hc:nth cl v=nth cl w
   ·exact .inr (.inr (h v w hv hw e hc))
   ·exact .inr (.inl hc)
theorem zcj {T:List (List Int)} {ch cl:List Int}:fitB T ch cl=true↔FitP T ch cl:=by
 rw[zbR];constructor
 ·intro h v w hv hw hne hc;obtain ⟨h1,h2⟩:=h v w hv hw hne hc;obtain ⟨⟨a,b⟩,c⟩:=ze1.1 h1;exact ⟨⟨a,b,c⟩,h2⟩
 ·intro h v w hv hw hne hc;obtain ⟨⟨a,b,c⟩,d⟩:=h v w hv hw hne hc;exact ⟨ze1.2 ⟨⟨a,b⟩,c⟩,d⟩
end Go.Proofs.YtiabbjolepnjkaaGreat
