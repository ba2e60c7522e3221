/- Part of the proof that the laws answer true for every input. -/
import Derived.Test.YtiabbjolepnjkaaGreatPVaA06
set_option linter.unusedSimpArgs false
set_option linter.unnecessarySimpa false
set_option linter.unusedVariables false
set_option maxRecDepth 100000
set_option maxHeartbeats 40000000
namespace Go.Proofs.YtiabbjolepnjkaaGreat
open Go.RowKit
theorem Qe {S:Nat→Prop} {w:World} {v:Value} {l:List Int} (h:Ints S w v l):
  Calls Tryz.prog 81 #[v] w (Post w fun _ r=>r=.int .i64 (checkS l)):=by
 obtain ⟨a,cap,rfl,ha,h1,h2,hc,hf⟩:=h;unfold maxLen at h2;obtain ⟨i0,hi,hz0,hz1,hz2⟩:=info_parts zG;have hix:=zF Tryz.underlying36 hi hz1 ha;clear hi hz0 hz1 hz2;go_enter Tryz.func81,Tryz.ntmps81;by_cases hbig:65536<l.length
 ·go_wp2;go_ret;exact .same (by simp[checkS,hbig])
 ·go_wp2;go_loop [3,4] (fun n i=>∃k:Nat,∃m:Int,k≤l.length∧0≤m∧m≤k∧i=.int .i64 k∧n=.int .i64 m∧checkTo (l.drop k) m=checkTo l 0) (fun _ i=>l.length - (intOf i).toNat)
  case atStart=>exact ⟨0,0,by omega,by omega,by omega,rfl,rfl,rfl⟩
  case round=>
   obtain ⟨k,m,hk,hm0,hmk,rfl,rfl,hrel⟩:=hrel;have H:=zhd hrel;clear hrel;by_cases hlt:k<l.length
   ·have HS:=zhd (xM hlt);go_wp2
    ·go_ret;exact .same (yK hbig H.out (by rw[HS.out,checkTo,if_pos ‹_›]))
    ·go_ret;exact .same (yK hbig H.out (by rw[HS.out,checkTo,if_neg (by omega),if_pos ‹_›]))
    ·go_round
     case rel=>exact ⟨k+1,m+1,by omega,by omega,by omega,by go_num,rfl,by rw[←H.out,HS.out,checkTo,if_neg (by omega),if_neg (by omega),if_pos (beq_iff_eq.1 ‹_›)]⟩
     case measure=>simp[intOf];omega
    ·go_round
     case rel=>exact ⟨k+1,m,by omega,by omega,by omega,by go_num,rfl,by rw[←H.out,HS.out,checkTo,if_neg (by omega),if_neg (by omega),if_neg (beq_eq_false_iff_ne.1 ‹_›)]⟩
     case measure=>simp[intOf];omega
   ·go_wp2;go_ret;exact .same (yK hbig H.out (by rw[List.drop_of_length_le (by omega),checkTo]))
end Go.Proofs.YtiabbjolepnjkaaGreat
