/- Part of the proof that the laws answer true for every input. -/
import Derived.Test.YtiabbjolepnjkaaGreatPDfC03
set_option linter.unusedSimpArgs false
set_option linter.unnecessarySimpa false
set_option linter.unusedVariables false
set_option maxRecDepth 100000
set_option maxHeartbeats 40000000
namespace Go.Proofs.YtiabbjolepnjkaaGreat
open Go.RowKit
attribute [local go_sem ↓] Go.wp_at_zero Go.wp_at_succ
def endB (ch:List Int) (u:Nat) (o:Int):Bool:=decide (o<0)|| !decide (nth ch u=nth ch o.toNat)
theorem ZO {A:Nat→Prop} {w:World} {g:Nat} {s:SysF} {ch:List Int} {u:Nat} {o:Int} (h:ScnV A w g s ch) (hu:u<s.tab.length) (ho:o<s.tab.length):
  Calls Tryz.prog 58 #[.pointer (some ⟨g,0,none⟩),u,o] w (Post w fun _ r=>r=.bool (endB ch u o)):=by
 obtain ⟨ca,cc,sa,sc,ta,tc,xa,xc,a2,c2,la,lc,mb,R,_,hM,ht,hr,hL⟩:=h.mem;obtain ⟨hg,hlen,hfew⟩:=h.dat
 have HR:Hid (endB ch u o=(decide (o<0)|| !decide (nth ch u=nth ch o.toNat))):=zhd rfl;obtain ⟨r,hrr⟩:=zn (endB ch u o);rw[←hrr]at HR ⊢;have g10:=R.zc 10 rfl;have lg:=R.lt;by_cases h0:o<0
 ·have d0:decide (o<0)=true:=decide_eq_true h0;have RE:=zhd (HR.out.trans (by rw[decide_eq_true h0,Bool.true_or]));clear h0 HR hM ht hr hL hg hlen hfew h hrr R;go_enter Tryz.func58,Tryz.ntmps58;go_wp2;go_quiet (fail);go_wp2;go_ret;exact .mk (zb _ _ _) (zE RE.out.symm)
 have d0:decide (o<0)=false:=decide_eq_false h0;obtain ⟨z,rfl⟩:∃z:Nat,o=z:=⟨o.toNat,by omega⟩;have uq:=hr.idx (k:=u) (by omega);have zq:=hr.idx (k:=z) (by omega);have uc:=hr.cellN (k:=u) (by omega);have zc:=hr.cellN (k:=z) (by omega);have bu:=World.block_lt_of_cell? _ _ uc;have bz:=World.block_lt_of_cell? _ _ zc;rw[Int.toNat_natCast]at HR;obtain ⟨cu,hcu⟩:∃c,c=nth ch u:=⟨_,rfl⟩;obtain ⟨cz,hcz⟩:∃c,c=nth ch z:=⟨_,rfl⟩;rw[←hcu]at uc HR;rw[←hcz]at zc HR;by_cases he:cu=cz
 ·have d1:(cu !=cz)=false:=by simp[he]
  have RE:=zhd (HR.out.trans (by rw[d0,decide_eq_true he,Bool.not_true,Bool.or_self]));clear h0 HR hM ht hr hL hg hlen hfew h hrr R hcu hcz he;go_enter Tryz.func58,Tryz.ntmps58;go_wp2;go_quiet (fail);go_wp2;go_ret;exact .mk (zb _ _ _) (zE RE.out.symm)
 ·have d1:(cu !=cz)=true:=by simp[he]
  have RE:=zhd (HR.out.trans (by rw[d0,decide_eq_false he,Bool.not_false,Bool.or_true]));clear h0 HR hM ht hr hL hg hlen hfew h hrr R hcu hcz he;go_enter Tryz.func58,Tryz.ntmps58;go_wp2;go_quiet (fail);go_wp2;go_ret;exact .mk (zb _ _ _) (zE RE.out.symm)
theorem zir {T:List (List Int)} {ch:List Int} {x y:Nat} {o:Int} {r:List Int}:outP T ch x o ((y:Int)::r)=(decide (0≤o)&&(hrsB T y x&&outP T ch y (repT T y x o) r)):=by
 show (decide (0≤o)&&(hrsB T (y:Int).toNat x&&outP T ch (y:Int).toNat (repT T (y:Int).toNat x o) r))=_;rw[Int.toNat_natCast]
theorem ziE {T:List (List Int)} {ch l:List Int} {x y k:Nat} {o:Int} (hk:k<l.length) (hy:nth l k=(y:Int)):outP T ch x o (l.drop k)=(decide (0≤o)&&(hrsB T y x&&outP T ch y (repT T y x o) (l.drop (k+1)))):=by
 rw[Z2 hk,hy,zir]
theorem zgY (s:SysF) (ch:List Int) (v w:Int) (l:List Int):aprE s ch v w l=if pairE s ch v w=0 then (if l.length=0 then 16 else if 7<l.length then 5 else if firstE (inE s.tab.length l) l.length=0 then (if aprB s.tab ch v.toNat w.toNat l then 0 else 18) else firstE (inE s.tab.length l) l.length) else pairE s ch v w:=rfl
theorem zik {n:Nat} {l:List Int} (h:Zeros (inE n l) l.length):∀k,k<l.length→∃y:Nat,nth l k=y∧y<n:=fun k hk=>by
 have:=h k hk;unfold inE at this;by_cases e:nth l k<0∨(n:Int)≤nth l k
 ·rw[if_pos e]at this;cases this
 ·exact ⟨(nth l k).toNat,by omega,by omega⟩
theorem zg4 {f:Nat→List Int} {m:Nat}:∀{n k:Nat},k≤m→m<k+n→(∀i,k≤i→i<m→f i=[])→f m≠[]→fstL f k n=f m
 | 0,k,h1,h2,_,_=>by omega
 | n+1,k,h1,h2,h3,h4=>by
  rw[show fstL f k (n+1)=if f k=[] then fstL f (k+1) n else f k from rfl];by_cases e:k=m
  ·subst e;rw[if_neg h4]
  ·rw[if_pos (h3 k (Nat.le_refl _) (by omega))];exact zg4 (by omega) (by omega) (fun i h5 h6=>h3 i (by omega) h6) h4
def DisR (s:SysF) (ch:List Int) (v w:Int) (w':World) (r:Value):Prop:=(pairE s ch v w=0∧∃rv,r=.tuple #[rv,.bool (decide (v≠w∧disL s.tab ch s.K (min v.toNat w.toNat) (max v.toNat w.toNat)≠[])),.int .i64 0]∧Ints TT w' rv (if v=w then [] else disL s.tab ch s.K (min v.toNat w.toNat) (max v.toNat w.toNat)))∨(pairE s ch v w≠0∧r=.tuple #[.slice none 0 0,.bool false,pairE s ch v w])
end Go.Proofs.YtiabbjolepnjkaaGreat
