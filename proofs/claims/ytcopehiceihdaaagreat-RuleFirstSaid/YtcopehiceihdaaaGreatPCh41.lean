/- Part of the proof that the laws of chapter 45 answer true for every input. -/
import Derived.Test.YtcopehiceihdaaaGreatPCh40
import Derived.Test.YtcopehiceihdaaaGreatPCh38
set_option linter.unusedSimpArgs false
set_option linter.unnecessarySimpa false
set_option linter.unusedVariables false
set_option maxRecDepth 100000
set_option maxHeartbeats 40000000
namespace Go.Proofs.YtcopehiceihdaaaGreat
open Go.RowKit
attribute [local go_sem ↓] Go.wp_at_zero Go.wp_at_succ
theorem flat_at {n:Nat}:∀{xs:List (List Value)} {j i:Nat},(∀c∈xs,c.length=n)→j<xs.length→i<n→xs.flatten[j * n+i]? =(xs.getD j [])[i]?
  | [],j,i,_,hj,_=>by simp at hj
  | c::xs,0,i,h,_,hi=>by
    have:=h c (by simp)
    rw[List.flatten_cons,List.getElem?_append_left (by omega)]
    simp
  | c::xs,j+1,i,h,hj,hi=>by
    have hc:=h c (by simp)
    have:=flat_at (xs:=xs) (j:=j) (i:=i) (fun d hd=>h d (List.mem_cons_of_mem _ hd)) (by simpa using hj) hi
    rw[List.flatten_cons,List.getElem?_append_right (by rw[hc,Nat.add_mul];omega),hc,show (j+1) * n+i - n=j * n+i by rw[Nat.add_mul];omega,this]
    simp
theorem sl_row {α:Type} {K:Kd α} {S:Nat→Prop} {w:World} {b:Nat} {e:TypeId} {l:List α} (xs:List (List Value)) (R:Row w b e xs.flatten) (hS:S b) (hl:l.length=xs.length) (hs:∀c∈xs,c.length=K.size) (hm:l.length≤100000) (hr:∀j (h:j<l.length),K.rd S w (xs.getD j []) l[j]):Sl K S w (.slice (some ⟨b,0,none⟩) l.length l.length) l:=by
  refine ⟨_,_,rfl,.inr ⟨b,0,rfl,R.lt,hS⟩,Nat.le_refl _,⟨by unfold maxLen;omega,by omega⟩,fun j hj=>⟨xs.getD j [],fun i hi=>?_,hr j hj⟩⟩
  rw[adr_add,Nat.zero_add]
  have h1:=flat_at hs (show j<xs.length by omega) hi
  cases h2:(xs.getD j [])[i]? with
  | none=>
    rw[List.getElem?_eq_none_iff]at h2
    have:=hs (xs.getD j []) (by rw[List.getD_eq_getElem?_getD,List.getElem?_eq_getElem (by omega)];exact List.getElem_mem _)
    omega
  | some u=>exact R.cell (by rw[h1,h2])
theorem lists_row {w:World} {b:Nat} {e:TypeId} {vs:List Value} {ll:List (List Int)} (R:Row w b e vs) (h:AllInts w vs ll) (hl:ll.length≤65536):Lists (fun _=>True) w (.slice (some ⟨b,0,none⟩) ll.length ll.length) ll:=by
  refine ⟨_,_,rfl,.inr ⟨b,0,rfl,R.lt,trivial⟩,Nat.le_refl _,by unfold maxLen;omega,fun j hj=>⟨nthV vs j,?_,h.get j hj⟩⟩
  have:=h.len
  rw[adr_add,Nat.zero_add]
  exact R.cell (nthV_get (by omega))
theorem move_calls (w:World) (p:Int):Calls Tryz.prog 80 #[.int .i64 p] w (Post w fun _ r=>r=.agg #[.int .i64 2,.int .i64 p,.int .i64 3,.int .i64 0,.int .i64 0,.int .i64 0,.int .i64 0,.int .i64 0]):=by
  have hx:=ext_alloc w (.cells #[.int .i64 2,.int .i64 p,.int .i64 3,.int .i64 0,.int .i64 0,.int .i64 0,.int .i64 0,.int .i64 0] 147)
  have R:=row_new w [.int .i64 2,.int .i64 p,.int .i64 3,.int .i64 0,.int .i64 0,.int .i64 0,.int .i64 0,.int .i64 0] 147
  have HX:=Lib.hid hx
  have HR:=Lib.hid R
  clear hx R
  go_enter Tryz.func80,Tryz.ntmps80
  go_wp2
  have q0:=HR.out.cell (j:=0) rfl
  have q1:=HR.out.cell (j:=1) rfl
  have q2:=HR.out.cell (j:=2) rfl
  have q3:=HR.out.cell (j:=3) rfl
  have q4:=HR.out.cell (j:=4) rfl
  have q5:=HR.out.cell (j:=5) rfl
  have q6:=HR.out.cell (j:=6) rfl
  have q7:=HR.out.cell (j:=7) rfl
  refine bodyPost_ret (v:=.agg #[.int .i64 2,.int .i64 p,.int .i64 3,.int .i64 0,.int .i64 0,.int .i64 0,.int .i64 0,.int .i64 0]) (by simp[results,Tryz.results80,go_sem,q0,q1,q2,q3,q4,q5,q6,q7]) rfl ?_
  exact .mk HX.out rfl
theorem example_calls (w:World):Calls Tryz.prog 38 #[] w (Post w fun w' r=>∃vc vs,r=.agg #[.int .i64 2,.int .i64 2,.int .i64 2,vc,.int .i64 2,vs,.int .i64 1]∧Sl kCase (fun _=>True) w' vc exP.cs∧Sl (kSl (kFlat 8)) (fun _=>True) w' vs exP.st):=by
  have B0:=(((((((((row_new w [.int .i64 0,.int .i64 0,.int .i64 0,.slice none 0 0,.int .i64 0,.slice none 0 0,.int .i64 0] 29).alloc (.cells #[.int .i64 0,.int .i64 0] 3)).alloc (.cells #[.int .i64 0,.int .i64 0] 3)).alloc (.cells #[.slice (some ⟨w.heap.size+1+1,0,none⟩) 2 2] 36)).alloc (.cells #[.int .i64 0,.int .i64 1] 3)).alloc (.cells #[.int .i64 0,.int .i64 0] 3)).alloc (.cells #[.int .i64 1,.int .i64 1] 3)).alloc (.cells #[.slice (some ⟨w.heap.size+1+1+1+1+1,0,none⟩) 2 2,.slice (some ⟨w.heap.size+1+1+1+1+1+1,0,none⟩) 2 2] 36)).alloc (.cells #[.slice (some ⟨w.heap.size+1,0,none⟩) 2 2,.slice (some ⟨w.heap.size+1+1+1,0,none⟩) 1 1,.slice none 0 0,.slice (some ⟨w.heap.size+1+1+1+1,0,none⟩) 2 2,.slice (some ⟨w.heap.size+1+1+1+1+1+1+1,0,none⟩) 2 2,.slice none 0 0] 119)).alloc (.cells #[.int .i64 2,.int .i64 2,.int .i64 2,.slice (some ⟨w.heap.size+1+1+1+1+1+1+1+1,0,none⟩) 2 2] 24)
  have B1:=((((((((row_new (w.alloc (.cells #[.int .i64 0,.int .i64 0,.int .i64 0,.slice none 0 0,.int .i64 0,.slice none 0 0,.int .i64 0] 29)) [.int .i64 0,.int .i64 0] 3).alloc (.cells #[.int .i64 0,.int .i64 0] 3)).alloc (.cells #[.slice (some ⟨w.heap.size+1+1,0,none⟩) 2 2] 36)).alloc (.cells #[.int .i64 0,.int .i64 1] 3)).alloc (.cells #[.int .i64 0,.int .i64 0] 3)).alloc (.cells #[.int .i64 1,.int .i64 1] 3)).alloc (.cells #[.slice (some ⟨w.heap.size+1+1+1+1+1,0,none⟩) 2 2,.slice (some ⟨w.heap.size+1+1+1+1+1+1,0,none⟩) 2 2] 36)).alloc (.cells #[.slice (some ⟨w.heap.size+1,0,none⟩) 2 2,.slice (some ⟨w.heap.size+1+1+1,0,none⟩) 1 1,.slice none 0 0,.slice (some ⟨w.heap.size+1+1+1+1,0,none⟩) 2 2,.slice (some ⟨w.heap.size+1+1+1+1+1+1+1,0,none⟩) 2 2,.slice none 0 0] 119)).alloc (.cells #[.int .i64 2,.int .i64 2,.int .i64 2,.slice (some ⟨w.heap.size+1+1+1+1+1+1+1+1,0,none⟩) 2 2] 24)
  have B2:=(((((((row_new ((w.alloc (.cells #[.int .i64 0,.int .i64 0,.int .i64 0,.slice none 0 0,.int .i64 0,.slice none 0 0,.int .i64 0] 29)).alloc (.cells #[.int .i64 0,.int .i64 0] 3)) [.int .i64 0,.int .i64 0] 3).alloc (.cells #[.slice (some ⟨w.heap.size+1+1,0,none⟩) 2 2] 36)).alloc (.cells #[.int .i64 0,.int .i64 1] 3)).alloc (.cells #[.int .i64 0,.int .i64 0] 3)).alloc (.cells #[.int .i64 1,.int .i64 1] 3)).alloc (.cells #[.slice (some ⟨w.heap.size+1+1+1+1+1,0,none⟩) 2 2,.slice (some ⟨w.heap.size+1+1+1+1+1+1,0,none⟩) 2 2] 36)).alloc (.cells #[.slice (some ⟨w.heap.size+1,0,none⟩) 2 2,.slice (some ⟨w.heap.size+1+1+1,0,none⟩) 1 1,.slice none 0 0,.slice (some ⟨w.heap.size+1+1+1+1,0,none⟩) 2 2,.slice (some ⟨w.heap.size+1+1+1+1+1+1+1,0,none⟩) 2 2,.slice none 0 0] 119)).alloc (.cells #[.int .i64 2,.int .i64 2,.int .i64 2,.slice (some ⟨w.heap.size+1+1+1+1+1+1+1+1,0,none⟩) 2 2] 24)
  have B3:=((((((row_new (((w.alloc (.cells #[.int .i64 0,.int .i64 0,.int .i64 0,.slice none 0 0,.int .i64 0,.slice none 0 0,.int .i64 0] 29)).alloc (.cells #[.int .i64 0,.int .i64 0] 3)).alloc (.cells #[.int .i64 0,.int .i64 0] 3)) [.slice (some ⟨w.heap.size+1+1,0,none⟩) 2 2] 36).alloc (.cells #[.int .i64 0,.int .i64 1] 3)).alloc (.cells #[.int .i64 0,.int .i64 0] 3)).alloc (.cells #[.int .i64 1,.int .i64 1] 3)).alloc (.cells #[.slice (some ⟨w.heap.size+1+1+1+1+1,0,none⟩) 2 2,.slice (some ⟨w.heap.size+1+1+1+1+1+1,0,none⟩) 2 2] 36)).alloc (.cells #[.slice (some ⟨w.heap.size+1,0,none⟩) 2 2,.slice (some ⟨w.heap.size+1+1+1,0,none⟩) 1 1,.slice none 0 0,.slice (some ⟨w.heap.size+1+1+1+1,0,none⟩) 2 2,.slice (some ⟨w.heap.size+1+1+1+1+1+1+1,0,none⟩) 2 2,.slice none 0 0] 119)).alloc (.cells #[.int .i64 2,.int .i64 2,.int .i64 2,.slice (some ⟨w.heap.size+1+1+1+1+1+1+1+1,0,none⟩) 2 2] 24)
  have B4:=(((((row_new ((((w.alloc (.cells #[.int .i64 0,.int .i64 0,.int .i64 0,.slice none 0 0,.int .i64 0,.slice none 0 0,.int .i64 0] 29)).alloc (.cells #[.int .i64 0,.int .i64 0] 3)).alloc (.cells #[.int .i64 0,.int .i64 0] 3)).alloc (.cells #[.slice (some ⟨w.heap.size+1+1,0,none⟩) 2 2] 36)) [.int .i64 0,.int .i64 1] 3).alloc (.cells #[.int .i64 0,.int .i64 0] 3)).alloc (.cells #[.int .i64 1,.int .i64 1] 3)).alloc (.cells #[.slice (some ⟨w.heap.size+1+1+1+1+1,0,none⟩) 2 2,.slice (some ⟨w.heap.size+1+1+1+1+1+1,0,none⟩) 2 2] 36)).alloc (.cells #[.slice (some ⟨w.heap.size+1,0,none⟩) 2 2,.slice (some ⟨w.heap.size+1+1+1,0,none⟩) 1 1,.slice none 0 0,.slice (some ⟨w.heap.size+1+1+1+1,0,none⟩) 2 2,.slice (some ⟨w.heap.size+1+1+1+1+1+1+1,0,none⟩) 2 2,.slice none 0 0] 119)).alloc (.cells #[.int .i64 2,.int .i64 2,.int .i64 2,.slice (some ⟨w.heap.size+1+1+1+1+1+1+1+1,0,none⟩) 2 2] 24)
  have B5:=((((row_new (((((w.alloc (.cells #[.int .i64 0,.int .i64 0,.int .i64 0,.slice none 0 0,.int .i64 0,.slice none 0 0,.int .i64 0] 29)).alloc (.cells #[.int .i64 0,.int .i64 0] 3)).alloc (.cells #[.int .i64 0,.int .i64 0] 3)).alloc (.cells #[.slice (some ⟨w.heap.size+1+1,0,none⟩) 2 2] 36)).alloc (.cells #[.int .i64 0,.int .i64 1] 3)) [.int .i64 0,.int .i64 0] 3).alloc (.cells #[.int .i64 1,.int .i64 1] 3)).alloc (.cells #[.slice (some ⟨w.heap.size+1+1+1+1+1,0,none⟩) 2 2,.slice (some ⟨w.heap.size+1+1+1+1+1+1,0,none⟩) 2 2] 36)).alloc (.cells #[.slice (some ⟨w.heap.size+1,0,none⟩) 2 2,.slice (some ⟨w.heap.size+1+1+1,0,none⟩) 1 1,.slice none 0 0,.slice (some ⟨w.heap.size+1+1+1+1,0,none⟩) 2 2,.slice (some ⟨w.heap.size+1+1+1+1+1+1+1,0,none⟩) 2 2,.slice none 0 0] 119)).alloc (.cells #[.int .i64 2,.int .i64 2,.int .i64 2,.slice (some ⟨w.heap.size+1+1+1+1+1+1+1+1,0,none⟩) 2 2] 24)
  have B6:=(((row_new ((((((w.alloc (.cells #[.int .i64 0,.int .i64 0,.int .i64 0,.slice none 0 0,.int .i64 0,.slice none 0 0,.int .i64 0] 29)).alloc (.cells #[.int .i64 0,.int .i64 0] 3)).alloc (.cells #[.int .i64 0,.int .i64 0] 3)).alloc (.cells #[.slice (some ⟨w.heap.size+1+1,0,none⟩) 2 2] 36)).alloc (.cells #[.int .i64 0,.int .i64 1] 3)).alloc (.cells #[.int .i64 0,.int .i64 0] 3)) [.int .i64 1,.int .i64 1] 3).alloc (.cells #[.slice (some ⟨w.heap.size+1+1+1+1+1,0,none⟩) 2 2,.slice (some ⟨w.heap.size+1+1+1+1+1+1,0,none⟩) 2 2] 36)).alloc (.cells #[.slice (some ⟨w.heap.size+1,0,none⟩) 2 2,.slice (some ⟨w.heap.size+1+1+1,0,none⟩) 1 1,.slice none 0 0,.slice (some ⟨w.heap.size+1+1+1+1,0,none⟩) 2 2,.slice (some ⟨w.heap.size+1+1+1+1+1+1+1,0,none⟩) 2 2,.slice none 0 0] 119)).alloc (.cells #[.int .i64 2,.int .i64 2,.int .i64 2,.slice (some ⟨w.heap.size+1+1+1+1+1+1+1+1,0,none⟩) 2 2] 24)
  have B7:=((row_new (((((((w.alloc (.cells #[.int .i64 0,.int .i64 0,.int .i64 0,.slice none 0 0,.int .i64 0,.slice none 0 0,.int .i64 0] 29)).alloc (.cells #[.int .i64 0,.int .i64 0] 3)).alloc (.cells #[.int .i64 0,.int .i64 0] 3)).alloc (.cells #[.slice (some ⟨w.heap.size+1+1,0,none⟩) 2 2] 36)).alloc (.cells #[.int .i64 0,.int .i64 1] 3)).alloc (.cells #[.int .i64 0,.int .i64 0] 3)).alloc (.cells #[.int .i64 1,.int .i64 1] 3)) [.slice (some ⟨w.heap.size+1+1+1+1+1,0,none⟩) 2 2,.slice (some ⟨w.heap.size+1+1+1+1+1+1,0,none⟩) 2 2] 36).alloc (.cells #[.slice (some ⟨w.heap.size+1,0,none⟩) 2 2,.slice (some ⟨w.heap.size+1+1+1,0,none⟩) 1 1,.slice none 0 0,.slice (some ⟨w.heap.size+1+1+1+1,0,none⟩) 2 2,.slice (some ⟨w.heap.size+1+1+1+1+1+1+1,0,none⟩) 2 2,.slice none 0 0] 119)).alloc (.cells #[.int .i64 2,.int .i64 2,.int .i64 2,.slice (some ⟨w.heap.size+1+1+1+1+1+1+1+1,0,none⟩) 2 2] 24)
  have B8:=(row_new ((((((((w.alloc (.cells #[.int .i64 0,.int .i64 0,.int .i64 0,.slice none 0 0,.int .i64 0,.slice none 0 0,.int .i64 0] 29)).alloc (.cells #[.int .i64 0,.int .i64 0] 3)).alloc (.cells #[.int .i64 0,.int .i64 0] 3)).alloc (.cells #[.slice (some ⟨w.heap.size+1+1,0,none⟩) 2 2] 36)).alloc (.cells #[.int .i64 0,.int .i64 1] 3)).alloc (.cells #[.int .i64 0,.int .i64 0] 3)).alloc (.cells #[.int .i64 1,.int .i64 1] 3)).alloc (.cells #[.slice (some ⟨w.heap.size+1+1+1+1+1,0,none⟩) 2 2,.slice (some ⟨w.heap.size+1+1+1+1+1+1,0,none⟩) 2 2] 36)) [.slice (some ⟨w.heap.size+1,0,none⟩) 2 2,.slice (some ⟨w.heap.size+1+1+1,0,none⟩) 1 1,.slice none 0 0,.slice (some ⟨w.heap.size+1+1+1+1,0,none⟩) 2 2,.slice (some ⟨w.heap.size+1+1+1+1+1+1+1,0,none⟩) 2 2,.slice none 0 0] 119).alloc (.cells #[.int .i64 2,.int .i64 2,.int .i64 2,.slice (some ⟨w.heap.size+1+1+1+1+1+1+1+1,0,none⟩) 2 2] 24)
  have B9:=row_new (((((((((w.alloc (.cells #[.int .i64 0,.int .i64 0,.int .i64 0,.slice none 0 0,.int .i64 0,.slice none 0 0,.int .i64 0] 29)).alloc (.cells #[.int .i64 0,.int .i64 0] 3)).alloc (.cells #[.int .i64 0,.int .i64 0] 3)).alloc (.cells #[.slice (some ⟨w.heap.size+1+1,0,none⟩) 2 2] 36)).alloc (.cells #[.int .i64 0,.int .i64 1] 3)).alloc (.cells #[.int .i64 0,.int .i64 0] 3)).alloc (.cells #[.int .i64 1,.int .i64 1] 3)).alloc (.cells #[.slice (some ⟨w.heap.size+1+1+1+1+1,0,none⟩) 2 2,.slice (some ⟨w.heap.size+1+1+1+1+1+1,0,none⟩) 2 2] 36)).alloc (.cells #[.slice (some ⟨w.heap.size+1,0,none⟩) 2 2,.slice (some ⟨w.heap.size+1+1+1,0,none⟩) 1 1,.slice none 0 0,.slice (some ⟨w.heap.size+1+1+1+1,0,none⟩) 2 2,.slice (some ⟨w.heap.size+1+1+1+1+1+1+1,0,none⟩) 2 2,.slice none 0 0] 119)) [.int .i64 2,.int .i64 2,.int .i64 2,.slice (some ⟨w.heap.size+1+1+1+1+1+1+1+1,0,none⟩) 2 2] 24
  have ex:Below w.heap.size w ((((((((((w.alloc (.cells #[.int .i64 0,.int .i64 0,.int .i64 0,.slice none 0 0,.int .i64 0,.slice none 0 0,.int .i64 0] 29)).alloc (.cells #[.int .i64 0,.int .i64 0] 3)).alloc (.cells #[.int .i64 0,.int .i64 0] 3)).alloc (.cells #[.slice (some ⟨w.heap.size+1+1,0,none⟩) 2 2] 36)).alloc (.cells #[.int .i64 0,.int .i64 1] 3)).alloc (.cells #[.int .i64 0,.int .i64 0] 3)).alloc (.cells #[.int .i64 1,.int .i64 1] 3)).alloc (.cells #[.slice (some ⟨w.heap.size+1+1+1+1+1,0,none⟩) 2 2,.slice (some ⟨w.heap.size+1+1+1+1+1+1,0,none⟩) 2 2] 36)).alloc (.cells #[.slice (some ⟨w.heap.size+1,0,none⟩) 2 2,.slice (some ⟨w.heap.size+1+1+1,0,none⟩) 1 1,.slice none 0 0,.slice (some ⟨w.heap.size+1+1+1+1,0,none⟩) 2 2,.slice (some ⟨w.heap.size+1+1+1+1+1+1+1,0,none⟩) 2 2,.slice none 0 0] 119)).alloc (.cells #[.int .i64 2,.int .i64 2,.int .i64 2,.slice (some ⟨w.heap.size+1+1+1+1+1+1+1+1,0,none⟩) 2 2] 24)):=ext_alloc' (ext_alloc' (ext_alloc' (ext_alloc' (ext_alloc' (ext_alloc' (ext_alloc' (ext_alloc' (ext_alloc' (ext_alloc w _) _) _) _) _) _) _) _) _) _
  simp only[World.size_alloc]at B1 B2 B3 B4 B5 B6 B7 B8 B9
  obtain ⟨w1,hw1⟩:∃w1,w1=((((((((((w.alloc (.cells #[.int .i64 0,.int .i64 0,.int .i64 0,.slice none 0 0,.int .i64 0,.slice none 0 0,.int .i64 0] 29)).alloc (.cells #[.int .i64 0,.int .i64 0] 3)).alloc (.cells #[.int .i64 0,.int .i64 0] 3)).alloc (.cells #[.slice (some ⟨w.heap.size+1+1,0,none⟩) 2 2] 36)).alloc (.cells #[.int .i64 0,.int .i64 1] 3)).alloc (.cells #[.int .i64 0,.int .i64 0] 3)).alloc (.cells #[.int .i64 1,.int .i64 1] 3)).alloc (.cells #[.slice (some ⟨w.heap.size+1+1+1+1+1,0,none⟩) 2 2,.slice (some ⟨w.heap.size+1+1+1+1+1+1,0,none⟩) 2 2] 36)).alloc (.cells #[.slice (some ⟨w.heap.size+1,0,none⟩) 2 2,.slice (some ⟨w.heap.size+1+1+1,0,none⟩) 1 1,.slice none 0 0,.slice (some ⟨w.heap.size+1+1+1+1,0,none⟩) 2 2,.slice (some ⟨w.heap.size+1+1+1+1+1+1+1,0,none⟩) 2 2,.slice none 0 0] 119)).alloc (.cells #[.int .i64 2,.int .i64 2,.int .i64 2,.slice (some ⟨w.heap.size+1+1+1+1+1+1+1+1,0,none⟩) 2 2] 24)):=⟨_,rfl⟩
  rw[←hw1]at B0 B1 B2 B3 B4 B5 B6 B7 B8 B9 ex
  have HW1:=Lib.hid hw1
  clear hw1
  go_enter Tryz.func38,Tryz.ntmps38
  go_wp2
  rw[←HW1.out]
  clear HW1
  have KEEP:Hid (∀w',Below w1.heap.size w1 w'→(fun w':World=>w'.cell? ⟨w.heap.size+1+1+1+1+1+1+1+1+1,0,none⟩=some (.int .i64 2)∧w'.cell? ⟨w.heap.size+1+1+1+1+1+1+1+1+1,1,none⟩=some (.int .i64 2)∧w'.cell? ⟨w.heap.size+1+1+1+1+1+1+1+1+1,2,none⟩=some (.int .i64 2)∧w'.cell? ⟨w.heap.size+1+1+1+1+1+1+1+1+1,3,none⟩=some (.slice (some ⟨w.heap.size+1+1+1+1+1+1+1+1,0,none⟩) 2 2)) w'):=Lib.hid fun w' hw=>⟨(B9.ext hw).cell (j:=0) rfl,(B9.ext hw).cell (j:=1) rfl,(B9.ext hw).cell (j:=2) rfl,(B9.ext hw).cell (j:=3) rfl⟩
  refine region_E (fun w':World=>w'.cell? ⟨w.heap.size+1+1+1+1+1+1+1+1+1,0,none⟩=some (.int .i64 2)∧w'.cell? ⟨w.heap.size+1+1+1+1+1+1+1+1+1,1,none⟩=some (.int .i64 2)∧w'.cell? ⟨w.heap.size+1+1+1+1+1+1+1+1+1,2,none⟩=some (.int .i64 2)∧w'.cell? ⟨w.heap.size+1+1+1+1+1+1+1+1+1,3,none⟩=some (.slice (some ⟨w.heap.size+1+1+1+1+1+1+1+1,0,none⟩) 2 2)) (fun i=>i==9) (by kernel_rfl) ?_ (fun hHeld=>?_)
  · exact KEEP.out _ (drewN_below _ _ 1)
  refine anyE_takeT 0 (v:=?_) rfl (by kernel_rfl) (fun _ _ _ h=>h) (by rfl) ?hy0 hHeld ?rest0
  case hy0=>(intro w hSw;(try dsimp only at hSw);go_simp;try with_reducible rfl)
  try simp only[Act.put,zsa,zsz,zss]
  refine anyE_takeT 1 (v:=?_) rfl (by kernel_rfl) (fun _ _ _ h=>h) (by rfl) ?hy1 hHeld ?rest1
  case hy1=>(intro w hSw;(try dsimp only at hSw);go_simp;try with_reducible rfl)
  try simp only[Act.put,zsa,zsz,zss]
  refine anyE_takeT 3 (v:=?_) rfl (by kernel_rfl) (fun _ _ _ h=>h) (by rfl) ?hy3 hHeld ?rest3
  case hy3=>(intro w hSw;(try dsimp only at hSw);go_simp;try with_reducible rfl)
  try simp only[Act.put,zsa,zsz,zss]
  refine anyE_one 2 rfl (by kernel_rfl) (fun K hK=>?_)
  (go_simp;go_at_call 80;refine (move_calls _ 1).mono ?_;rintro _ w2 ⟨_,rfl,hb2,rfl⟩;have y2:=ext_trans (drewN_below w1.heap.size w1 1) hb2;clear hb2)
  refine hK.out _ _ (fun _=>KEEP.out _ y2) (fun hHeld=>?_);replace hHeld:=hHeld rfl
  clear hK K
  try simp only[Act.put,zsa,zsz,zss]
  refine anyE_one 4 rfl (by kernel_rfl) (fun K hK=>?_)
  (go_simp;go_at_call 80;refine (move_calls _ 3).mono ?_;rintro _ w3 ⟨_,rfl,hb3,rfl⟩;have y3:=ext_trans y2 hb3;clear hb3)
  refine hK.out _ _ (fun _=>KEEP.out _ y3) (fun hHeld=>?_);replace hHeld:=hHeld rfl
  clear hK K
  try simp only[Act.put,zsa,zsz,zss]
  refine anyE_one 5 rfl (by kernel_rfl) (fun K hK=>?_)
  go_simp
  refine hK.out _ _ (fun _=>KEEP.out _ (ext_alloc' y3 _)) (fun hHeld=>?_);replace hHeld:=hHeld rfl
  clear hK K
  try simp only[Act.put,zsa,zsz,zss]
  refine anyE_one 6 rfl (by kernel_rfl) (fun K hK=>?_)
  go_simp
  refine hK.out _ _ (fun _=>KEEP.out _ (ext_alloc' (ext_alloc' y3 _) _)) (fun hHeld=>?_);replace hHeld:=hHeld rfl
  clear hK K
  try simp only[Act.put,zsa,zsz,zss]
  refine anyE_takeT 7 (v:=?_) rfl (by kernel_rfl) (fun _ _ _ h=>h) (by rfl) ?hy7 hHeld ?rest7
  case hy7=>(intro w hSw;(try dsimp only at hSw);go_simp;try with_reducible rfl)
  try simp only[Act.put,zsa,zsz,zss]
  refine anyE_takeT 8 (v:=?_) rfl (by kernel_rfl) (fun _ _ _ h=>h) (by rfl) ?hy8 hHeld ?rest8
  case hy8=>(intro w hSw;(try dsimp only at hSw);go_simp;try with_reducible rfl)
  try simp only[Act.put,zsa,zsz,zss]
  have HY:=Lib.hid y3
  have BA:=(row_new w3 [.int .i64 2,.int .i64 1,.int .i64 3,.int .i64 0,.int .i64 0,.int .i64 0,.int .i64 0,.int .i64 0,.int .i64 2,.int .i64 3,.int .i64 3,.int .i64 0,.int .i64 0,.int .i64 0,.int .i64 0,.int .i64 0] 147).alloc (.cells #[.slice (some ⟨w3.heap.size,0,none⟩) 2 2] 149)
  have BB:=row_new (w3.alloc (.cells #[.int .i64 2,.int .i64 1,.int .i64 3,.int .i64 0,.int .i64 0,.int .i64 0,.int .i64 0,.int .i64 0,.int .i64 2,.int .i64 3,.int .i64 3,.int .i64 0,.int .i64 0,.int .i64 0,.int .i64 0,.int .i64 0] 147)) [.slice (some ⟨w3.heap.size,0,none⟩) 2 2] 149
  rw[World.size_alloc]at BB
  have e5:Below w1.heap.size w1 ((w3.alloc (.cells #[.int .i64 2,.int .i64 1,.int .i64 3,.int .i64 0,.int .i64 0,.int .i64 0,.int .i64 0,.int .i64 0,.int .i64 2,.int .i64 3,.int .i64 3,.int .i64 0,.int .i64 0,.int .i64 0,.int .i64 0,.int .i64 0] 147)).alloc (.cells #[.slice (some ⟨w3.heap.size,0,none⟩) 2 2] 149)):=ext_alloc' (ext_alloc' HY.out _) _
  replace B0:=B0.ext e5
  replace B1:=B1.ext e5
  replace B2:=B2.ext e5
  replace B3:=B3.ext e5
  replace B4:=B4.ext e5
  replace B5:=B5.ext e5
  replace B6:=B6.ext e5
  replace B7:=B7.ext e5
  replace B8:=B8.ext e5
  have c0:=B0.cell (j:=0) rfl
  have f0:=B0.free 0
  have c1:=B0.cell (j:=1) rfl
  have f1:=B0.free 1
  have c2:=B0.cell (j:=2) rfl
  have f2:=B0.free 2
  have c3:=B0.cell (j:=3) rfl
  have f3:=B0.free 3
  have c4:=B0.cell (j:=4) rfl
  have f4:=B0.free 4
  have c5:=B0.cell (j:=5) rfl
  have f5:=B0.free 5
  have c6:=B0.cell (j:=6) rfl
  have f6:=B0.free 6
  have l0:=B0.lt
  have hex:=ext_trans ex e5
  obtain ⟨w5,hw5⟩:∃w5,w5=((w3.alloc (.cells #[.int .i64 2,.int .i64 1,.int .i64 3,.int .i64 0,.int .i64 0,.int .i64 0,.int .i64 0,.int .i64 0,.int .i64 2,.int .i64 3,.int .i64 3,.int .i64 0,.int .i64 0,.int .i64 0,.int .i64 0,.int .i64 0] 147)).alloc (.cells #[.slice (some ⟨w3.heap.size,0,none⟩) 2 2] 149)):=⟨_,rfl⟩
  rw[←hw5]at BA BB e5 hex B0 B1 B2 B3 B4 B5 B6 B7 B8 c0 f0 c1 f1 c2 f2 c3 f3 c4 f4 c5 f5 c6 f6 l0 ⊢
  have RS:=B0.sets [(0,.int .i64 2),(1,.int .i64 2),(2,.int .i64 2),(3,.slice (some ⟨w.heap.size+1+1+1+1+1+1+1+1,0,none⟩) 2 2),(4,.int .i64 2),(5,.slice (some ⟨w3.heap.size+1,0,none⟩) 1 1),(6,.int .i64 1)]
  have hbf:=sets_below (Nat.le_refl w.heap.size) [(0,.int .i64 2),(1,.int .i64 2),(2,.int .i64 2),(3,.slice (some ⟨w.heap.size+1+1+1+1+1+1+1+1,0,none⟩) 2 2),(4,.int .i64 2),(5,.slice (some ⟨w3.heap.size+1,0,none⟩) 1 1),(6,.int .i64 1)] _ hex
  have hag:=sets_agree w.heap.size [(0,.int .i64 2),(1,.int .i64 2),(2,.int .i64 2),(3,.slice (some ⟨w.heap.size+1+1+1+1+1+1+1+1,0,none⟩) 2 2),(4,.int .i64 2),(5,.slice (some ⟨w3.heap.size+1,0,none⟩) 1 1),(6,.int .i64 1)] w5
  unfold sets at RS hbf hag
  simp only[List.foldl_cons,List.foldl_nil,zsz,zss]at RS hbf hag
  have l9:=B9.lt
  have hls:=hex.size
  have hbA:=BA.lt
  have hex3:=ex.size
  have hy3:=HY.out.size
  replace B1:=B1.agree hag (by omega)
  replace B2:=B2.agree hag (by omega)
  replace B3:=B3.agree hag (by omega)
  replace B4:=B4.agree hag (by omega)
  replace B5:=B5.agree hag (by omega)
  replace B6:=B6.agree hag (by omega)
  replace B7:=B7.agree hag (by omega)
  replace B8:=B8.agree hag (by omega)
  replace BA:=BA.agree hag (by omega)
  replace BB:=BB.agree hag (by omega)
  have q0:=RS.cell (j:=0) rfl
  have q1:=RS.cell (j:=1) rfl
  have q2:=RS.cell (j:=2) rfl
  have q3:=RS.cell (j:=3) rfl
  have q4:=RS.cell (j:=4) rfl
  have q5:=RS.cell (j:=5) rfl
  have q6:=RS.cell (j:=6) rfl
  have HQ:=Lib.hid (And.intro q0 (And.intro q1 (And.intro q2 (And.intro q3 (And.intro q4 (And.intro q5 q6))))))
  have HBF:=Lib.hid hbf
  have i1:=(Row.ints (l:=[0,0]) B1 (by decide) (by intro x hx;simp at hx;unfold WF;omega)).mono (S':=fun _=>True) (fun _ _=>trivial)
  have i2:=(Row.ints (l:=[0,0]) B2 (by decide) (by intro x hx;simp at hx;unfold WF;omega)).mono (S':=fun _=>True) (fun _ _=>trivial)
  have i4:=(Row.ints (l:=[0,1]) B4 (by decide) (by intro x hx;simp at hx;unfold WF;omega)).mono (S':=fun _=>True) (fun _ _=>trivial)
  have i5:=(Row.ints (l:=[0,0]) B5 (by decide) (by intro x hx;simp at hx;unfold WF;omega)).mono (S':=fun _=>True) (fun _ _=>trivial)
  have i6:=(Row.ints (l:=[1,1]) B6 (by decide) (by intro x hx;simp at hx;unfold WF;omega)).mono (S':=fun _=>True) (fun _ _=>trivial)
  have j3:=lists_row (ll:=[[0,0]]) B3 ⟨i2,trivial⟩ (by decide)
  have j7:=lists_row (ll:=[[0,0],[1,1]]) B7 ⟨i5,i6,trivial⟩ (by decide)
  have jn:=fun W=>Lists.nil (fun _=>True) W
  have kc:=sl_row (K:=kCase) (S:=fun _=>True) (l:=exP.cs) [[.slice (some ⟨w.heap.size+1,0,none⟩) 2 2,.slice (some ⟨w.heap.size+1+1+1,0,none⟩) 1 1,.slice none 0 0],[.slice (some ⟨w.heap.size+1+1+1+1,0,none⟩) 2 2,.slice (some ⟨w.heap.size+1+1+1+1+1+1+1,0,none⟩) 2 2,.slice none 0 0]] B8 trivial rfl (by simp[kCase]) (by decide) (fun j hj=>match j,hj with | 0,_=>⟨_,_,_,rfl,i1,j3,jn _⟩ | 1,_=>⟨_,_,_,rfl,i4,j7,jn _⟩ | j+2,h=>absurd h (by simp[exP]))
  have km:=sl_row (K:=kFlat 8) (S:=fun _=>True) (l:=[[2,1,3,0,0,0,0,0],[2,3,3,0,0,0,0,0]]) [[.int .i64 2,.int .i64 1,.int .i64 3,.int .i64 0,.int .i64 0,.int .i64 0,.int .i64 0,.int .i64 0],[.int .i64 2,.int .i64 3,.int .i64 3,.int .i64 0,.int .i64 0,.int .i64 0,.int .i64 0,.int .i64 0]] BA trivial rfl (by simp[kFlat]) (by decide) (fun j hj=>match j,hj with | 0,_=>⟨rfl,rfl,by intro x hx;simp at hx;unfold WF;omega⟩ | 1,_=>⟨rfl,rfl,by intro x hx;simp at hx;unfold WF;omega⟩ | j+2,h=>absurd h (by simp))
  have ks:=sl_row (K:=kSl (kFlat 8)) (S:=fun _=>True) (l:=exP.st) [[.slice (some ⟨w3.heap.size,0,none⟩) 2 2]] BB trivial rfl (by simp[kSl]) (by decide) (fun j hj=>match j,hj with | 0,_=>⟨_,rfl,km⟩ | j+1,h=>absurd h (by simp[exP]))
  have HFIN:=Lib.hid (Exists.intro _ (Exists.intro _ (And.intro rfl (And.intro kc ks))):∃vc vs,(Value.agg #[.int .i64 2,.int .i64 2,.int .i64 2,.slice (some ⟨w.heap.size+1+1+1+1+1+1+1+1,0,none⟩) 2 2,.int .i64 2,.slice (some ⟨w3.heap.size+1,0,none⟩) 1 1,.int .i64 1])=.agg #[.int .i64 2,.int .i64 2,.int .i64 2,vc,.int .i64 2,vs,.int .i64 1]∧Sl kCase (fun _=>True) _ vc exP.cs∧Sl (kSl (kFlat 8)) (fun _=>True) _ vs exP.st)
  clear kc km ks jn j3 j7 i1 i2 i4 i5 i6 RS hbf hag q0 q1 q2 q3 q4 q5 q6 B0 B1 B2 B3 B4 B5 B6 B7 B8 BA BB e5 hex hls hbA ex hw5
  refine anyE_one 9 rfl (by kernel_rfl) (fun K hK=>?_)
  (go_simp)
  refine hK.out _ _ (fun h=>by simp at h) (fun hHeld=>?_)
  clear hK K
  try simp only[Act.put,zsa,zsz,zss]
  refine anyE_done (by kernel_rfl) ?_ _
  clear hHeld KEEP
  go_wp2
  obtain ⟨q0,q1,q2,q3,q4,q5,q6⟩:=HQ.out
  refine bodyPost_ret (v:=.agg #[.int .i64 2,.int .i64 2,.int .i64 2,.slice (some ⟨w.heap.size+1+1+1+1+1+1+1+1,0,none⟩) 2 2,.int .i64 2,.slice (some ⟨w3.heap.size+1,0,none⟩) 1 1,.int .i64 1]) (by simp[results,Tryz.results38,go_sem,q0,q1,q2,q3,q4,q5,q6]) rfl ?_
  exact .mk HBF.out HFIN.out
end Go.Proofs.YtcopehiceihdaaaGreat
namespace Go.Proofs.YtcopehiceihdaaaGreat
open Go.RowKit
attribute [local go_sem ↓] Go.wp_at_zero Go.wp_at_succ
theorem folL_cons (m:Int→Option Int) (val:Int) (v:Nat) (l:List Nat):folL m val (v::l)=folL (put1 m v val) val l:=rfl
theorem ancL_succ {T:List (List Int)} {k v u:Nat} (h:befV T v=u):ancL T (k+1) v=v::ancL T k u:=by show v::ancL T k (befV T v).toNat=_;rw[h,Int.toNat_natCast]
theorem fol_calls {B C FB SB mb tc N K:Nat} {S:Nat→Prop} {tn val:Int} {ta:Option Addr} {T:List (List Int)} (hT:TabOK N K T) (hvm:T.length≤100000) (hB:B≤mb) (hval:WF val):∀(k v q:Nat),v<T.length→TabV N K T v q k→∀(w:World) (m:Int→Option Int) (n:Nat),FolS S C FB SB mb tn ta tc T w m n→n+k<10000000→B≤w.heap.size→
    Calls Tryz.prog 39 #[.int .i64 v,.int .i64 val,.pointer (some ⟨C,0,none⟩),.pointer (some ⟨FB,0,none⟩),.pointer (some ⟨SB,0,none⟩)] w (FolP B S C FB SB mb tn ta tc T w (folL m val (ancL T k v)) (n+k+1)):=by
  intro k
  induction k with
  | zero=>
    intro v q hv hV w m n hs hn hBw
    rcases hV.bef hT.1 with ⟨_,hb⟩ | ⟨u,h0,_⟩
    case inr=>omega
    refine fol_step hs hT hv hvm hB hBw (by omega) hval hb fun W n1 h1 hW hBW=>?_
    refine (fol_none W val C FB SB).mono ?_
    rintro e W' ⟨⟨rv,rfl⟩,rfl⟩
    exact ⟨⟨_,rfl⟩,n1,by omega,hW,.refl _ _,.refl _ _⟩
  | succ k ih=>
    intro v q hv hV w m n hs hn hBw
    rcases hV.bef hT.1 with ⟨h0,_⟩ | ⟨u,_,huv,hbu,hbq,hu0,hu1⟩
    · omega
    have hVu:TabV N K T u q k:=by
      obtain ⟨q',k',h1⟩:=hT.2 u (by omega)
      have e1:=h1.q0
      have e2:=h1.k0
      have:q'=q:=by omega
      subst this
      have:k'=k:=by rw[hu1]at e2;simp at e2;omega
      subst this
      exact h1
    rw[ancL_succ hbu,folL_cons]
    refine fol_step hs hT hv hvm hB hBw (by omega) hval hbu fun W n1 h1 hW hBW=>?_
    refine (ih u q (by omega) hVu W _ n1 hW (by omega) hBW).mono ?_
    rintro e W' ⟨he,n',h2,h3⟩
    exact ⟨he,n',by omega,h3⟩
theorem newI_put (m:Int→Option Int) (x val z:Int):newI (put1 m x val) z val=newI m z val:=by
  by_cases h:z=x
  · subst h
    have h1:put1 m z val z=some (newI m z val):=by unfold put1;rw[if_pos rfl]
    unfold newI
    rw[h1]
    unfold newI
    cases m z with
    | none=>simp
    | some old => by_cases e : old = val <;> simp [e]
                  try exact fun h=>h.symm
  · have h1:put1 m x val z=m z:=by unfold put1;rw[if_neg h]
    unfold newI
    rw[h1]
theorem folL_at (val:Int) (z:Int):∀(L:List Nat) (m:Int→Option Int),folL m val L z=if∃u∈L,((u:Nat):Int)=z then some (newI m z val) else m z
  | [],m=>by rw[if_neg (by simp)];rfl
  | v::L,m=>by
    rw[folL_cons,folL_at val z L,newI_put]
    by_cases h1:∃u∈L,((u:Nat):Int)=z
    · rw[if_pos h1,if_pos (by obtain ⟨u,hu,e⟩:=h1;exact ⟨u,List.mem_cons_of_mem _ hu,e⟩)]
    · rw[if_neg h1]
      by_cases h2:z=(v:Int)
      · rw[if_pos ⟨v,List.mem_cons_self,h2.symm⟩,put1,if_pos h2,h2]
      · rw [if_neg (by rintro ⟨u, hu, e⟩; rcases List.mem_cons.1 hu with rfl | hu; · exact h2 e.symm
                       · exact h1 ⟨u,hu,e⟩),put1,if_neg h2]
def comTo (T:List (List Int)) (ch l:List Int):Int→Option Int:=l.foldl (fun m x=>folL m (nth ch x.toNat) (anc T x.toNat)) (fun _=>none)
theorem comTo_succ (T:List (List Int)) (ch:List Int) {l:List Int} {k:Nat} (hk:k<l.length):comTo T ch (l.take (k+1))=folL (comTo T ch (l.take k)) (nth ch (nth l k).toNat) (anc T (nth l k).toNat):=by
  unfold comTo
  rw[take_nth hk,List.foldl_append]
  rfl
def comV (ch L:List Int):Option Int:=if L.length=0 then none else if∀x∈L,nth ch x.toNat=nth ch (nth L 0).toNat then some (nth ch (nth L 0).toNat) else some (-2)
def newO (o:Option Int) (val:Int):Int:=match o with
  | some old=>if old=val then val else -2
  | none=>val
theorem comV_cons (ch:List Int) (a:Int) (L:List Int):comV ch (a::L)=if∀x∈a::L,nth ch x.toNat=nth ch a.toNat then some (nth ch a.toNat) else some (-2):=by unfold comV;rw[if_neg (by simp)];rfl
theorem comV_snoc (ch L:List Int) (x:Int):comV ch (L++[x])=some (newO (comV ch L) (nth ch x.toNat)):=by
  cases L with
  | nil=>simp[comV,newO,nth]
  | cons a L=>
    rw[List.cons_append,comV_cons,comV_cons]
    by_cases h2:∀y∈a::L,nth ch y.toNat=nth ch a.toNat
    · rw[if_pos h2]
      by_cases h3:nth ch x.toNat=nth ch a.toNat
      · rw [if_pos (by intro y hy; rcases List.mem_append.1 (show y ∈ (a :: L) ++ [x] from hy) with h | h; · exact h2 y h
                       · rw[List.mem_singleton.1 h];exact h3)]
        simp[newO,h3]
      · rw[if_neg (fun h=>h3 (h x (by simp)))]
        have:¬nth ch a.toNat=nth ch x.toNat:=fun e=>h3 e.symm
        simp[newO,this]
    · rw[if_neg h2,if_neg (fun h=>h2 fun y hy=>h y (show y∈(a::L)++[x] from List.mem_append_left _ hy))]
      unfold newO
      by_cases h4:(-2:Int)=nth ch x.toNat
      · simp[←h4]
      · simp[h4]
theorem comTo_at (T:List (List Int)) (ch l:List Int) (u:Nat):∀k,k≤l.length→comTo T ch (l.take k) (u:Int)=comV ch (laterL T (l.take k) u)
  | 0,_=>by simp[comTo,comV,laterL]
  | k+1,hk=>by
    have ih:=comTo_at T ch l u k (by omega)
    rw[comTo_succ T ch (by omega:k<l.length),folL_at,laterL_succ (by omega:k<l.length)]
    by_cases h:u∈anc T (nth l k).toNat
    · rw[if_pos ⟨u,h,rfl⟩,if_pos (by simpa using h),comV_snoc,←ih];rfl
    · rw [if_neg (by rintro ⟨x, hx, e⟩; have : x = u := by omega
                     exact h (this▸hx)),if_neg (by simpa using h),List.append_nil,ih]
theorem comTo_all (T:List (List Int)) (ch l:List Int) (u:Nat):comTo T ch l (u:Int)=comV ch (laterL T l u):=by
  have:=comTo_at T ch l u l.length (Nat.le_refl _)
  rwa [List.take_length]at this
def outV (o:Option Int) (b:Int) (bf:List Int):Int:=match o with
  | some x=>if x= -2 then -1 else x
  | none=>if b<0 then -1 else nth bf b.toNat
theorem outV_eq {T:List (List Int)} {ch bf l:List Int} {v:Nat} (h:∀y∈l,nth ch y.toNat≠ -2):outV (comV ch l) (befV T v) bf=valueL T ch bf l v:=by
  unfold comV valueL outV
  by_cases h0:l.length=0
  · rw[if_pos h0,if_pos h0]
  · rw[if_neg h0,if_neg h0]
    by_cases h1:∀x∈l,nth ch x.toNat=nth ch (nth l 0).toNat
    · rw[if_pos h1,if_pos h1]
      have:=h (nth l 0) (nth_mem (by omega))
      simp[this]
    · rw[if_neg h1,if_neg h1]
      simp
end Go.Proofs.YtcopehiceihdaaaGreat
