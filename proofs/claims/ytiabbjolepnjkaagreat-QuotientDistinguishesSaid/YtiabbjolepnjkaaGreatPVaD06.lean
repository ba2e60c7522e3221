/- Part of the proof that the laws answer true for every input. -/
import Derived.Test.YtiabbjolepnjkaaGreatPVaA33
import Derived.Test.YtiabbjolepnjkaaGreatPVaD05
set_option linter.unusedSimpArgs false
set_option linter.unnecessarySimpa false
set_option linter.unusedVariables false
set_option maxRecDepth 100000
set_option maxHeartbeats 40000000
namespace Go.Proofs.YtiabbjolepnjkaaGreat
open Go.RowKit
attribute [local go_sem ↓] Go.wp_at_zero Go.wp_at_succ
theorem zai {S S':Nat→Prop} {w:World} {v1 v2:Value} {l1 l2:List Int} (h1:Ints S w v1 l1) (h2:Ints S' w v2 l2):
  Calls Tryz.prog 22 #[v1,v2] w (QuietP w (.bool (decide (l1=l2)))):=by
 obtain ⟨a1,cap1,rfl,ha1,_,hm1,hc1,_⟩:=h1;obtain ⟨a2,cap2,rfl,ha2,_,_,hc2,_⟩:=h2;unfold maxLen at hm1;obtain ⟨i0,hi,hz0,hz1,hz2⟩:=info_parts zG;have hix1:=zF Tryz.underlying36 hi hz1 ha1;have hix2:=zF Tryz.underlying36 hi hz1 ha2;clear hi hz0 hz1 hz2;by_cases hlen:l1.length=l2.length
 ·have hne:((l1.length:Int) !=l2.length)=false:=by simp[hlen]
  have HL:=zhd hlen;clear hlen;go_enter Tryz.func22,Tryz.ntmps22;go_wp2;go_loopw [5] (fun i wr=>∃k:Nat,k≤l1.length∧i=.int .i64 k∧(∃m,wr=w.drewN m)∧l1.take k=l2.take k) (fun i _=>l1.length - (intOf i).toNat)
  case atStart=>exact ⟨0,by omega,rfl,⟨0,rfl⟩,rfl⟩
  case round=>
   obtain ⟨k,hk,rfl,⟨m,rfl⟩,hrel⟩:=hrel;have H:=zhd hrel;clear hrel;by_cases hlt:k<l1.length
   ·have hlt2:k<l2.length:=by have:=HL.out;omega
    have q1:=hix1 k hlt;have q2:=hix2 k hlt2;have p1:=hc1 k hlt;have p2:=hc2 k hlt2;clear hix1 hix2 hc1 hc2;by_cases he:nth l1 k=nth l2 k
    ·have he':(nth l1 k !=nth l2 k)=false:=by simp[he]
     have HE:=zhd he;clear he;go_wp2;go_quiet (fail);go_wp2;go_roundw
     case rel=>exact ⟨k+1,by omega,by go_num,⟨_,rfl⟩,xe hlt hlt2 H.out HE.out⟩
     case measure=>simp[intOf];omega
    ·have he':(nth l1 k !=nth l2 k)=true:=by simp[he]
     go_wp2;go_quiet (fail);go_wp2;go_ret;rw[World.drewN_drewN];exact .of (zy (decide_eq_false (fun (e:l1=l2)=>he (by rw[e]))).symm) _
   ·go_wp2;go_ret;refine .of (zy ?_) _;have:=H.out;have h2:=HL.out;rw[List.take_of_length_le (by omega),List.take_of_length_le (by omega)]at this;exact (decide_eq_true this).symm
 ·have hne:((l1.length:Int) !=l2.length)=true:=by simp;omega
  go_enter Tryz.func22,Tryz.ntmps22;go_wp2;go_ret;exact .of (zy (decide_eq_false (fun (e:l1=l2)=>hlen (by rw[e]))).symm) 0
theorem zaN {S S':Nat→Prop} {w:World} {v1 v2:Value} {l:List Int} (h1:Ints S w v1 l) (h2:Ints S' w v2 l):
  Calls Tryz.prog 22 #[v1,v2] w (Post w fun _ r=>r=.bool true):=(zai h1 h2).mono fun _ _ h=>by simpa using h.post
def TripQ (l:List Int) (b:Bool) (x:Int) (w':World) (r:Value):Prop:=∃a c,r=.tuple #[.slice a l.length c,.bool b,x]∧Ints TT w' (.slice a l.length c) l
def disA (s:SysF) (ch:List Int) (v w:Int):List Int:=if pairE s ch v w=0 then (if v=w then [] else disL s.tab ch s.K (min v.toNat w.toNat) (max v.toNat w.toNat)) else []
def disB (s:SysF) (ch:List Int) (v w:Int):Bool:=decide (pairE s ch v w=0∧v≠w∧disL s.tab ch s.K (min v.toNat w.toNat) (max v.toNat w.toNat)≠[])
theorem DisR.trip {s:SysF} {ch:List Int} {v w:Int} {w':World} {r:Value} (h:DisR s ch v w w' r):TripQ (disA s ch v w) (disB s ch v w) (pairE s ch v w) w' r:=by
 unfold disA disB;rcases h with ⟨h0,u,rfl,hu⟩ | ⟨h0,rfl⟩
 ·rw[if_pos h0,h0];obtain ⟨a,c,rfl,_⟩:=hu.form;have hd:decide ((0:Int)=0∧v≠w∧disL s.tab ch s.K (min v.toNat w.toNat) (max v.toNat w.toNat)≠[])=decide (v≠w∧disL s.tab ch s.K (min v.toNat w.toNat) (max v.toNat w.toNat)≠[]):=by simp
  rw[hd];exact ⟨a,c,rfl,hu⟩
 ·rw[if_neg h0,decide_eq_false (fun h=>h0 h.1)];exact ⟨none,0,rfl,Ints.nil _ _⟩
end Go.Proofs.YtiabbjolepnjkaaGreat
