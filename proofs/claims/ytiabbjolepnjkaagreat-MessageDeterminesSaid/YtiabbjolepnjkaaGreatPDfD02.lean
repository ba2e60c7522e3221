/- Part of the proof that the laws answer true for every input. -/
import Derived.Test.YtiabbjolepnjkaaGreatPDfD01
set_option linter.unusedSimpArgs false
set_option linter.unnecessarySimpa false
set_option linter.unusedVariables false
set_option maxRecDepth 100000
set_option maxHeartbeats 40000000
namespace Go.Proofs.YtiabbjolepnjkaaGreat
def tolV (T:List (List Int)) (cl:List Int) (r t u k:Nat):Int:=
 if nth (nthL T u) (3+k)<0 then -1 else if k=t then nth cl (nth (nthL T u) (3+k)).toNat else symV T cl r k t (nth cl (nth (nthL T u) (3+k)).toNat).toNat
theorem za5 {T:List (List Int)} {cl:List Int} {r t u k:Nat} (h:nth (nthL T u) (3+k)= -1):tolV T cl r t u k= -1:=by
 unfold tolV;rw[if_pos (by omega)]
theorem zbS {T:List (List Int)} {cl:List Int} {r t u k a c:Nat} (h:nth (nthL T u) (3+k)=(a:Int)) (hc:nth cl a=(c:Int)):tolV T cl r t u k=if k=t then (c:Int) else symV T cl r k t c:=by
 unfold tolV;rw[h,if_neg (by omega),Int.toNat_natCast,hc,Int.toNat_natCast]
structure FitC (T:List (List Int)) (ch cl:List Int) (m:Nat):Prop where
 used:Used T cl m
 lab:∀v,v<T.length→∃c:Nat,c<m∧nth cl v=(c:Int)
 own:∀v w,v<T.length→w<T.length→(nth cl v=nth cl w↔samB T ch (nth cl) v w=true)
section
variable {N K:Nat} {T:List (List Int)} {ch cl:List Int} {m r t:Nat}
theorem zah {lab:Nat→Int} {v w:Nat} (h:folB T lab v w=true) (t:Nat):folP T lab t v w=true:=qP.2 fun u hu _ hh=>yH.1 h u hu hh
theorem FitC.sent (h:FitC T ch cl m) {a c:Nat} (ha:a<T.length) (hc:nth cl a=(c:Int)) (hm:c<m):sndB T cl (rndT T a) (prcT T a) c=true∧folP T (nth cl) t a (fclN cl c)=true∧folP T (nth cl) t (fclN cl c) a=true:=by
 obtain ⟨h1,h2⟩:=h.used.first hm;have hs:=yn.1 ((h.own a (fclN cl c) ha h1).1 (by rw[hc,h2]));exact ⟨yZ.2 ⟨hs.1.symm,hs.2.1.symm⟩,zah hs.2.2.2.1 t,zah hs.2.2.2.2 t⟩
theorem ze7 (hT:TabOK N K T) (hn:T.Nodup) (h:FitC T ch cl m) {u v:Nat} (hu:u<T.length) (hv:v<T.length) (hp:prcT T u=prcT T v) (hr:rndT T u=rndT T v) (h2:nth (nthL T u) 2=nth (nthL T v) 2)
  (he:∀k,k<N→tolV T cl (rndT T u - 1) (prcT T u) u k=tolV T cl (rndT T u - 1) (prcT T u) v k):nth cl u=nth cl v:=by
 obtain ⟨p,R,tu⟩:=hT.2 u hu;obtain ⟨p',R',tv⟩:=hT.2 v hv;have e1:p'=p:=by rw[tu.prc,tv.prc]at hp;exact hp.symm
 have ru:rndT T u=R:=by unfold rndT;rw[tu.k0];exact Int.toNat_natCast R
 have rv:rndT T v=R':=by unfold rndT;rw[tv.k0];exact Int.toNat_natCast R'
 have e2:R'=R:=by rw[ru,rv]at hr;exact hr.symm
 subst e1 e2;rw[tu.prc,ru]at he;refine zj5 (t:=p') hn (fun x hx=>?_) hu hv tv.prc (fun i hi=>?_) (fun k hk=>?_)
 ·obtain ⟨i,hi,rfl⟩:=List.getElem_of_mem hx;obtain ⟨_,_,ti⟩:=hT.2 i hi;rw[←ya hi];exact ti.len
 ·match i,hi with
  | 0,_=>rw[tu.q0,tv.q0]
  | 1,_=>rw[tu.k0,tv.k0]
  | 2,_=>exact h2
 ·rcases tu.heard k hk with hu0 | ⟨a,ha,hua,hkN,qa,ra,_⟩
  ·rcases tv.heard k hk with hv0 | ⟨b,hb,hvb,hkN,qb,rb,_⟩
   ·left;rw[hu0,hv0]
   ·exfalso
    obtain ⟨c,hc,hcl⟩:=h.lab b (by omega);have:=he k hkN;rw[za5 hu0,zbS hvb hcl]at this;split at this
    ·omega
    ·have hs:=(h.sent (t:=p') (show b<T.length by omega) hcl hc).1;have eb:prcT T b=k:=by unfold prcT;rw[qb];exact Int.toNat_natCast k
     have er:rndT T b=R' - 1:=by unfold rndT;rw[rb];exact Int.toNat_natCast _
     rw[eb,er]at hs;have:=(yE (t:=p') hT hn h.used hc).2.2.2 hs;omega
  ·have ha':a<T.length:=by omega
   have ea:prcT T a=k:=by unfold prcT;rw[qa];exact Int.toNat_natCast k
   have era:rndT T a=R' - 1:=by unfold rndT;rw[ra];exact Int.toNat_natCast _
   obtain ⟨c,hc,hcl⟩:=h.lab a ha';obtain ⟨sa,fa1,fa2⟩:=h.sent (t:=p') ha' hcl hc;rw[ea,era]at sa;rcases tv.heard k hk with hv0 | ⟨b,hb,hvb,_,qb,rb,_⟩
   ·exfalso
    have:=he k hkN;rw[zbS hua hcl,za5 hv0]at this;split at this
    ·omega
    ·have:=(yE (t:=p') hT hn h.used hc).2.2.2 sa;omega
   ·right;have hb':b<T.length:=by omega
    have eb:prcT T b=k:=by unfold prcT;rw[qb];exact Int.toNat_natCast k
    have erb:rndT T b=R' - 1:=by unfold rndT;rw[rb];exact Int.toNat_natCast _
    obtain ⟨d,hd,hdl⟩:=h.lab b hb';obtain ⟨sb,fb1,fb2⟩:=h.sent (t:=p') hb' hdl hd;rw[eb,erb]at sb;refine ⟨a,b,hua,hvb,ea,?_⟩;have:=he k hkN;rw[zbS hua hcl,zbS hvb hdl]at this;have pfa:=(yZ.1 sa).1;have pfb:=(yZ.1 sb).1;by_cases hkp:k=p'
    ·rw[if_pos hkp,if_pos hkp]at this;have hs:=yn.1 ((h.own a b ha' hb').1 (by rw[hcl,hdl];exact this));exact zah hs.2.2.2.1 p'
    ·rw[if_neg hkp,if_neg hkp]at this;have hq:=(zal.1 ((zcd (t:=p') hT hn h.used hc hd sa sb).1 this)).1;exact Zl hT ha' (by rw[ea,pfa]) fa1 (Zl hT (h.used.first hc).1 (by rw[pfa,pfb]) hq fb2)
end
end Go.Proofs.YtiabbjolepnjkaaGreat
