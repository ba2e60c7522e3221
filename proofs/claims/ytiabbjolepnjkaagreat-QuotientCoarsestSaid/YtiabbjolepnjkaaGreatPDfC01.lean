/- Part of the proof that the laws answer true for every input. -/
import Derived.Test.YtiabbjolepnjkaaGreatPDfA22
import Derived.Test.YtiabbjolepnjkaaGreatPDfC00
set_option linter.unusedSimpArgs false
set_option linter.unnecessarySimpa false
set_option linter.unusedVariables false
set_option maxRecDepth 100000
set_option maxHeartbeats 40000000
namespace Go.Proofs.YtiabbjolepnjkaaGreat
def dsB (T:List (List Int)) (ch:List Int):Nat→Nat→Int→Bool
 | 0,u,o=>decide (o<0)|| !decide (nth ch u=nth ch o.toNat)
 | m+1,u,o=>decide (0≤o)&&(List.range T.length).any fun y=>hrsB T y u&&dsB T ch m y (repT T y u o)
theorem YG {T:List (List Int)} {ch:List Int} {u:Nat} {o:Int}:dsB T ch 0 u o=true↔o<0∨nth ch u≠nth ch o.toNat:=by
 rw[show dsB T ch 0 u o=(decide (o<0)|| !decide (nth ch u=nth ch o.toNat)) from rfl,Bool.or_eq_true,decide_eq_true_iff,Bool.not_eq_true',decide_eq_false_iff_not]
theorem ZN {T:List (List Int)} {ch:List Int} {m u:Nat} {o:Int}:dsB T ch (m+1) u o=true↔0≤o∧∃y,y<T.length∧hrsB T y u=true∧dsB T ch m y (repT T y u o)=true:=by
 rw[show dsB T ch (m+1) u o=(decide (0≤o)&&(List.range T.length).any fun y=>hrsB T y u&&dsB T ch m y (repT T y u o)) from rfl];simp only[Bool.and_eq_true,decide_eq_true_iff,List.any_eq_true,List.mem_range]
theorem ZP {N K:Nat} {T:List (List Int)} (hT:TabOK N K T) (hn:T.Nodup) {ch cl:List Int} (hf:FitP T ch cl):∀(m u w:Nat),u<T.length→w<T.length→nth cl u=nth cl w→dsB T ch m u w=false
 | 0,u,w,hu,hw,hc=>by
  cases h:dsB T ch 0 u w with
  | false=>rfl
  | true=>
   rcases YG.1 h with h1 | h1
   ·omega
   ·rw[Int.toNat_natCast]at h1;by_cases e:u=w
    ·subst e;exact absurd rfl h1
    ·exact absurd (hf u w hu hw e hc).1.2.2 h1
 | m+1,u,w,hu,hw,hc=>by
  cases h:dsB T ch (m+1) u w with
  | false=>rfl
  | true=>
   obtain ⟨_,y,hy,h1,h2⟩:=ZN.1 h;have hfo:0≤repT T y u w∧nth cl (repT T y u w).toNat=nth cl y:=by
    by_cases e:u=w
    ·subst e;rw[Qo hn hy h1,Int.toNat_natCast];exact ⟨by omega,rfl⟩
    ·exact yH.1 (hf u w hu hw e hc).2 y hy h1
   obtain ⟨z,hz⟩:∃z:Nat,repT T y u w=z:=⟨(repT T y u w).toNat,by omega⟩;have hl:=(ZR (T:=T) (u:=y) (w:=u) (b:=(w:Int))).2;rw[hz]at h2 hfo;rw[Int.toNat_natCast]at hfo;rw[ZP hT hn hf m y z hy (by omega) hfo.2.symm]at h2;cases h2
theorem zgc {N K:Nat} {T:List (List Int)} (hT:TabOK N K T) (hn:T.Nodup) {ch:List Int}:∀(m v w:Nat),v<T.length→w<T.length→prcT T v=prcT T w→rndT T v=rndT T w→rndT T v+m=K→samB T ch (quoE T ch K) v w=false→∃j,j≤m∧(dsB T ch j v w=true∨dsB T ch j w v=true):=by
 intro m;induction m with
 | zero=>
  intro v w hv hw hp hr hm h;have hfo:∀a b,rndT T a=K→a<T.length→folB T (quoE T ch K) a b=true:=fun a b hk ha=>yH.2 fun u hu h1=>by
   have:=YL hT hu ha h1;have:=Zd hT hu;omega
  have hc:nth ch v≠nth ch w:=fun e=>by
   rw[yn.2 ⟨hp,hr,e,hfo v w (by omega) hv,hfo w v (by omega) hw⟩]at h;cases h
  exact ⟨0,Nat.le_refl _,.inl (YG.2 (.inr (by rw[Int.toNat_natCast];exact hc)))⟩
 | succ m ih=>
  intro v w hv hw hp hr hm h;by_cases hc:nth ch v=nth ch w
  case neg=>exact ⟨0,by omega,.inl (YG.2 (.inr (by rw[Int.toNat_natCast];exact hc)))⟩
  have key:∀a b,a<T.length→b<T.length→prcT T a=prcT T b→rndT T a=rndT T b→rndT T a+(m+1)=K→folB T (quoE T ch K) a b=false→∃j,j≤m+1∧(dsB T ch j a b=true∨dsB T ch j b a=true):=by
   intro a b ha hb hab hrr hmm hfo;have hex:∃u,u<T.length∧hrsB T u a=true∧¬(0≤repT T u a b∧quoE T ch K (repT T u a b).toNat=quoE T ch K u):=by
    apply Classical.byContradiction;intro hno;rw[yH.2 fun u hu h1=>Classical.byContradiction fun h2=>hno ⟨u,hu,h1,h2⟩]at hfo;cases hfo
   obtain ⟨u,hu,h1,h2⟩:=hex;by_cases h0:repT T u a b<0
   ·exact ⟨1,by omega,.inl (ZN.2 ⟨by omega,u,hu,h1,YG.2 (.inl h0)⟩)⟩
   ·obtain ⟨y,hy⟩:∃y:Nat,repT T u a b=y:=⟨(repT T u a b).toNat,by omega⟩;obtain ⟨l1,l2,l3⟩:=zd8 hT hu ha h1 hy;obtain ⟨_,g2,g3⟩:=zap (b:=(a:Int)) hT hu ha hab h1 hy;rw[Qo hn hu h1]at g3;have hne:samB T ch (quoE T ch K) u y=false:=by
     cases hs:samB T ch (quoE T ch K) u y with
     | false=>rfl
     | true=>
      have:=(ziw hT hn hu l1).2 hs;rw[hy,Int.toNat_natCast]at h2;exact absurd ⟨by omega,this.symm⟩ h2
    have hru:=YL hT hu ha h1;obtain ⟨j,hj,hd⟩:=ih u y hu l1 l2.symm l3.symm (by omega) hne;rcases hd with hd | hd
    ·exact ⟨j+1,by omega,.inl (ZN.2 ⟨by omega,u,hu,h1,by rw[hy];exact hd⟩)⟩
    ·exact ⟨j+1,by omega,.inr (ZN.2 ⟨by omega,y,l1,g2,by rw[g3];exact hd⟩)⟩
  cases hf1:folB T (quoE T ch K) v w with
  | false=>exact key v w hv hw hp hr hm hf1
  | true=>
   cases hf2:folB T (quoE T ch K) w v with
   | false=>
    obtain ⟨j,hj,hd⟩:=key w v hw hv hp.symm hr.symm (by omega) hf2;exact ⟨j,hj,hd.symm⟩
   | true=>
    rw[yn.2 ⟨hp,hr,hc,hf1,hf2⟩]at h;cases h
theorem zgU {s:SysF} (hg:GoodS s s.N s.K) {ch:List Int} {v w:Nat} (hv:v<s.tab.length) (hw:w<s.tab.length) (hp:prcT s.tab v=prcT s.tab w) (hr:rndT s.tab v=rndT s.tab w):
  nth (quoL s ch) v≠nth (quoL s ch) w↔∃j,j≤s.K∧(dsB s.tab ch j v w=true∨dsB s.tab ch j w v=true):=by
 constructor
 ·intro h;have hs:samB s.tab ch (quoE s.tab ch s.K) v w=false:=by
   cases hs:samB s.tab ch (quoE s.tab ch s.K) v w with
   | false=>rfl
   | true=>exact absurd ((Xv hg hv hw).2 hs) h
  have hk:=Zd hg.tab hv;obtain ⟨j,hj,hd⟩:=zgc hg.tab hg.nodup (s.K - rndT s.tab v) v w hv hw hp hr (by omega) hs;exact ⟨j,by omega,hd⟩
 ·rintro ⟨j,_,hd⟩ e;rcases hd with hd | hd
  ·rw[ZP hg.tab hg.nodup (xY hg ch) j v w hv hw e]at hd;cases hd
  ·rw[ZP hg.tab hg.nodup (xY hg ch) j w v hw hv e.symm]at hd;cases hd
def fstL (f:Nat→List Int):Nat→Nat→List Int
 | _,0=>[]
 | k,n+1=>if f k=[] then fstL f (k+1) n else f k
theorem Zz {f:Nat→List Int}:∀{n k:Nat},fstL f k n=[]↔∀i,k≤i→i<k+n→f i=[]
 | 0,k=>⟨fun _ i h1 h2=>by omega,fun _=>rfl⟩
 | n+1,k=>by
  rw[show fstL f k (n+1)=if f k=[] then fstL f (k+1) n else f k from rfl];by_cases h:f k=[]
  ·rw[if_pos h,Zz];constructor
   ·intro hh i h1 h2;by_cases e:i=k
    ·subst e;exact h
    ·exact hh i (by omega) (by omega)
   ·intro hh i h1 h2;exact hh i (by omega) (by omega)
  ·rw[if_neg h];exact ⟨fun hh=>absurd hh h,fun hh=>hh k (by omega) (by omega)⟩
def pthT (T:List (List Int)) (ch:List Int):Nat→Nat→Int→List Int
 | 0,u,o=>if o<0∨nth ch u≠nth ch o.toNat then [(u:Int)] else []
 | m+1,u,o=>if o<0 then [] else if fstL (fun y=>if hrsB T y u then pthT T ch m y (repT T y u o) else []) 0 T.length=[] then [] else (u:Int)::fstL (fun y=>if hrsB T y u then pthT T ch m y (repT T y u o) else []) 0 T.length
theorem Xh {T:List (List Int)} {ch:List Int}:∀{m u:Nat} {o:Int},pthT T ch m u o=[]↔dsB T ch m u o=false
 | 0,u,o=>by
  rw[show pthT T ch 0 u o=if o<0∨nth ch u≠nth ch o.toNat then [(u:Int)] else [] from rfl];constructor
  ·intro h;cases hd:dsB T ch 0 u o with
   | false=>rfl
   | true=>rw[if_pos (YG.1 hd)]at h;cases h
  ·intro h;rw[if_neg];intro hn;rw[YG.2 hn]at h;cases h
 | m+1,u,o=>by
  rw[show pthT T ch (m+1) u o=if o<0 then [] else if fstL (fun y=>if hrsB T y u then pthT T ch m y (repT T y u o) else []) 0 T.length=[] then [] else (u:Int)::fstL (fun y=>if hrsB T y u then pthT T ch m y (repT T y u o) else []) 0 T.length from rfl];by_cases h0:o<0
  ·rw[if_pos h0];refine ⟨fun _=>?_,fun _=>rfl⟩;cases hd:dsB T ch (m+1) u o with
   | false=>rfl
   | true=>have:=(ZN.1 hd).1;omega
  ·rw[if_neg h0];by_cases h1:fstL (fun y=>if hrsB T y u then pthT T ch m y (repT T y u o) else []) 0 T.length=[]
   ·rw[if_pos h1];refine ⟨fun _=>?_,fun _=>rfl⟩;cases hd:dsB T ch (m+1) u o with
    | false=>rfl
    | true=>
     obtain ⟨_,y,hy,h2,h3⟩:=ZN.1 hd;have:=Zz.1 h1 y (by omega) (by omega);rw[if_pos h2]at this;rw[Xh.1 this]at h3;cases h3
   ·rw[if_neg h1];constructor
    ·intro h;cases h
    ·intro h;exfalso
     refine h1 (Zz.2 fun y h2 h3=>?_);cases hh:hrsB T y u with
     | false=>rw[if_neg (by simp)]
     | true=>
      rw[if_pos rfl,Xh];cases hd:dsB T ch m y (repT T y u o) with
      | false=>rfl
      | true=>rw[ZN.2 ⟨by omega,y,by omega,hh,hd⟩]at h;cases h
end Go.Proofs.YtiabbjolepnjkaaGreat
