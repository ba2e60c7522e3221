/- Part of the proof that the laws answer true for every input. -/
import Derived.Test.YtiabbjolepnjkaaGreatPDfB00
import Derived.Test.YtiabbjolepnjkaaGreatPDfD00
set_option linter.unusedSimpArgs false
set_option linter.unnecessarySimpa false
set_option linter.unusedVariables false
set_option maxRecDepth 100000
set_option maxHeartbeats 40000000
namespace Go.Proofs.YtiabbjolepnjkaaGreat
theorem zhx {T:List (List Int)} {lab:Nat→Int} {t x a k:Nat} {b:Nat} (hx:x<T.length) (hp:prcT T x=t) (hf:folP T lab t a b=true) (ha:prcT T a=k) (hh:nth (nthL T x) (3+k)=(a:Int)):
  ∃y,y<T.length∧nthL T y=(nthL T x).set (3+k) (b:Int)∧lab y=lab x:=by
 have hr:hrsB T x a=true:=xX.2 (by rw[ha];exact hh);obtain ⟨h0,h1⟩:=qP.1 hf x hx hp hr;unfold repT at h0 h1;rw[ha]at h0 h1;rcases Qz (T:=T) (x:=(nthL T x).set (3+k) (b:Int)) with ⟨e,_⟩ | ⟨y,e,hy,hn⟩
 ·omega
 ·rw[e,Int.toNat_natCast]at h1;exact ⟨y,hy,hn,h1⟩
theorem zge {l:List Int} {i j:Nat} {b:Int} (hi:i<l.length):nth (l.set i b) j=if j=i then b else nth l j:=by
 unfold nth;rw[List.getD_eq_getElem?_getD,List.getD_eq_getElem?_getD,List.getElem?_set];by_cases h:i=j
 ·subst h;rw[if_pos rfl,if_pos rfl,if_pos hi];rfl
 ·rw[if_neg h,if_neg (fun e=>h e.symm)]
theorem zf1 {T:List (List Int)} {lab:Nat→Int} {u v t:Nat} (h8:∀r∈T,r.length=8) (hu:u<T.length) (hp:prcT T v=t) (h3:∀i,i<3→nth (nthL T u) i=nth (nthL T v) i)
  (H:∀k,k<5→nth (nthL T u) (3+k)=nth (nthL T v) (3+k)∨∃a b:Nat,nth (nthL T u) (3+k)=(a:Int)∧nth (nthL T v) (3+k)=(b:Int)∧prcT T a=k∧folP T lab t a b=true):
  ∀k,k≤5→∃x,x<T.length∧lab x=lab u∧(∀i,i<3+k→nth (nthL T x) i=nth (nthL T v) i)∧∀i,3+k≤i→nth (nthL T x) i=nth (nthL T u) i
 | 0,_=>⟨u,hu,rfl,h3,fun _ _=>rfl⟩
 | k+1,hk=>by
  obtain ⟨x,hx,hl,h1,h2⟩:=zf1 h8 hu hp h3 H k (by omega);rcases H k (by omega) with he | ⟨a,b,ha,hb,hpa,hf⟩
  ·refine ⟨x,hx,hl,fun i hi=>?_,fun i hi=>h2 i (by omega)⟩;by_cases e:i=3+k
   ·subst e;rw[h2 _ (Nat.le_refl _),he]
   ·exact h1 i (by omega)
  ·have hpx:prcT T x=t:=by
    rw[←hp];unfold prcT;rw[h1 0 (by omega)]
   obtain ⟨y,hy,hn,hly⟩:=zhx hx hpx hf hpa (by rw[h2 _ (Nat.le_refl _)];exact ha);have hlen:(nthL T x).length=8:=h8 _ (yh hx);refine ⟨y,hy,hly.trans hl,fun i hi=>?_,fun i hi=>?_⟩
   ·rw[hn,zge (by omega)];by_cases e:i=3+k
    ·subst e;rw[if_pos rfl,hb]
    ·rw[if_neg e];exact h1 i (by omega)
   ·rw[hn,zge (by omega),if_neg (by omega)];exact h2 i (by omega)
theorem zj5 {T:List (List Int)} {lab:Nat→Int} {u v t:Nat} (hn:T.Nodup) (h8:∀r∈T,r.length=8) (hu:u<T.length) (hv:v<T.length) (hp:prcT T v=t) (h3:∀i,i<3→nth (nthL T u) i=nth (nthL T v) i)
  (H:∀k,k<5→nth (nthL T u) (3+k)=nth (nthL T v) (3+k)∨∃a b:Nat,nth (nthL T u) (3+k)=(a:Int)∧nth (nthL T v) (3+k)=(b:Int)∧prcT T a=k∧folP T lab t a b=true):lab u=lab v:=by
 obtain ⟨x,hx,hl,h1,_⟩:=zf1 h8 hu hp h3 H 5 (Nat.le_refl _);have e:nthL T x=nthL T v:=by
  have l1:=h8 _ (yh hx);have l2:=h8 _ (yh hv);apply List.ext_getElem (by rw[l1,l2]);intro i h3 h4;have:=h1 i (by omega);simpa[nth,h3,h4] using this
 rw[←hl,Zw hn hx hv e]
end Go.Proofs.YtiabbjolepnjkaaGreat
