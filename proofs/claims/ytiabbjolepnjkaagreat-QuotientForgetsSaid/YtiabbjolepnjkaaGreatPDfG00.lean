/- Part of the proof that the laws answer true for every input. -/
import Derived.Test.YtiabbjolepnjkaaGreatPDfA05
set_option linter.unusedSimpArgs false
set_option linter.unnecessarySimpa false
set_option linter.unusedVariables false
set_option maxRecDepth 100000
set_option maxHeartbeats 40000000
namespace Go.Proofs.YtiabbjolepnjkaaGreat
open Go.RowKit
def bothS (a b:List Int):Int:=if checkS a≠0 then checkS a else if checkS b≠0 then checkS b else if a.length≠b.length then 15 else 0
theorem zeI {S S':Nat→Prop} {w:World} {va vb:Value} {a b:List Int} (ha:Ints S w va a) (hb:Ints S' w vb b):
  Calls Tryz.prog 79 #[va,vb] w (Post w fun _ r=>r=.int .i64 (bothS a b)):=by
 have ka:=ha;have kb:=hb;obtain ⟨aa,capa,rfl,_⟩:=ka;obtain ⟨ab,capb,rfl,_⟩:=kb;go_enter Tryz.func79,Tryz.ntmps79;go_wp2;have hb0:Below w.heap.size w (w.alloc (.cells #[.slice aa a.length capa,.slice ab b.length capb] 36)):=(Below.refl _ _).alloc (Nat.le_refl _) _;refine wp_loop_rounds 3 ?_;rw[rounds_succ];go_wp2_with fail;refine (xO (ha.ext hb0)).mono ?_;rintro _ w1 ⟨_,rfl,hb1,rfl⟩;have c1:w1.cell? ⟨w.heap.size,1,none⟩=some (.slice ab b.length capb):=by
  rw[hb1.cell (p:=⟨w.heap.size,1,none⟩) (by simp)];simp
 go_wp2_with fail
 ·go_ret;exact .mk (za hb0 hb1) (zr (by simp_all [bothS]))
 ·rw[rounds_succ];go_wp2_with fail;refine (xO ((hb.ext hb0).ext hb1)).mono ?_;rintro _ w2 ⟨_,rfl,hb2,rfl⟩;go_wp2_with fail
  ·go_ret;exact .mk (za hb0 (za hb1 hb2)) (zr (by simp_all [bothS]))
  ·rw[rounds_succ];by_cases hl:a.length=b.length
   ·have e3:((a.length:Int) !=b.length)=false:=by simp[hl]
    have HL:=zhd hl;clear hl;go_wp2_with fail;go_ret;exact .mk (za hb0 (za hb1 hb2)) (zr (by have:=HL.out;simp_all [bothS]))
   ·have e3:((a.length:Int) !=b.length)=true:=by simp;omega
    have HL:=zhd hl;clear hl;go_wp2_with fail;go_ret;exact .mk (za hb0 (za hb1 hb2)) (zr (by have:=HL.out;simp_all [bothS]))
end Go.Proofs.YtiabbjolepnjkaaGreat
