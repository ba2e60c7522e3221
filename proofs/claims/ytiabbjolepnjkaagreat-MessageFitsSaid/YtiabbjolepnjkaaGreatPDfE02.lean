/- Part of the proof that the laws answer true for every input. -/
import Derived.Test.YtiabbjolepnjkaaGreatPDfE00
set_option linter.unusedSimpArgs false
set_option linter.unnecessarySimpa false
set_option linter.unusedVariables false
set_option maxRecDepth 100000
set_option maxHeartbeats 40000000
namespace Go.Proofs.YtiabbjolepnjkaaGreat
open Go.RowKit
theorem QY {S:Nat→Prop} {w:World} {v:Value} {l:List Int} (h:Ints S w v l) (hg:Good l):
  Calls Tryz.prog 42 #[v] w (Post w fun _ r=>r=.int .i64 (numS l)):=by
 have h0:=h;obtain ⟨a,cap,rfl,ha,_,_,hc,hf⟩:=h0;obtain ⟨i0,hi,hz0,hz1,hz2⟩:=info_parts info3;have hix:=zL Tryz.underlying36 hi hz1 ha;have hlen:=hg.1;have HG:=zhd hg.2;go_enter Tryz.func42,Tryz.ntmps42;go_wp2;go_loop [3,4] (fun n i=>∃k:Nat,k≤l.length∧i=.int .i64 k∧n=.int .i64 (numS (l.take k))) (fun _ i=>l.length - (intOf i).toNat)
 case atStart=>exact ⟨0,by omega,rfl,rfl⟩
 case round=>
  obtain ⟨k,hk,rfl,rfl⟩:=hrel;by_cases hlt:k<l.length
  ·have q:=hix k hlt;have p:=hc k hlt;have hgk:=HG.out k hlt;have hnk:=zcW l HG.out k hk;have hn0:=yI (l.take k);have HT:=zhd (qO hlt);go_wp2;go_round
   case rel=>exact ⟨k+1,by omega,by go_num,zr (by rw[HT.out,yX];split<;>omega)⟩
   case measure=>simp[intOf];omega
  ·go_wp2;go_ret;exact .same (zr (by rw[List.take_of_length_le (by omega)]))
end Go.Proofs.YtiabbjolepnjkaaGreat
