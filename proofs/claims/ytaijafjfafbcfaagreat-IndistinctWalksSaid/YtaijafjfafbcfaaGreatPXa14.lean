/- Part of the proof that the laws answer true for every input. -/
import Derived.Test.YtaijafjfafbcfaaGreatPXa13
import Derived.Laws.CopyOwn
import Derived.Lib.SliceRun
set_option linter.unusedSimpArgs false
set_option linter.unnecessarySimpa false
set_option linter.unusedVariables false
set_option maxRecDepth 100000
set_option maxHeartbeats 40000000
namespace Go.Proofs.YtaijafjfafbcfaaGreat
open Go.RowKit
attribute [local go_sem ↓] Go.wp_at_zero Go.wp_at_succ
theorem info_caseB:(Tryz.prog.info? 123).map (fun i=>(i.zero,i.size,i.bytes))=some (some (.agg #[.slice none 0 0,.slice none 0 0,.slice none 0 0]),3,72):=by kernel_rfl
theorem info_moveB:(Tryz.prog.info? 121).map (fun i=>(i.zero,i.size,i.bytes))=some (some (.agg #[.int .i64 0,.int .i64 0,.int .i64 0,.int .i64 0,.int .i64 0,.int .i64 0,.int .i64 0,.int .i64 0]),8,64):=by kernel_rfl
theorem cloneR_calls {S:Nat→Prop} {w:World} {v:Value} {l:List (List Int)} (h:Sl (kFlat 7) S w v l) (hn:l.length≤1000000):
  Calls Tryz.prog 72 #[v] w (Post w fun w' r=>OwnK (kFlat 7) 119 w.heap.size (fun b=>S b∧b<w.heap.size) w' r l):=by
 obtain ⟨a,cap,rfl,ad,l1,l2,l3⟩:=h.form2
 cases a with
 | none=>
  have h0:l.length=0∧cap=0:=by
   rcases ad with h | ⟨b,off,e,_⟩
   ·exact h
   ·cases e
  obtain ⟨h0,rfl⟩:=h0
  obtain rfl:l=[]:=List.length_eq_zero_iff.1 h0
  clear h ad l1 l2 l3 h0
  have hn1:=@Lib.run_eql_slice_nil Tryz.prog w 78 119 none 0 0 0 0 Tryz.underlying78
  go_enter Tryz.func72,Tryz.ntmps72
  go_wp2
  go_ret
  exact .mk (.refl _ _) (OwnK.nil _ _ _ _ _)
 | some x=>
  have ex:=ext_alloc w (.cells #[] 119)
  have hown0:=(row_new w [] 119).ownsW (base:=w.heap.size) (z:=7) (n:=0) (Nat.le_refl _) rfl (by simp[maxLen])
  have OW:=Lib.hid hown0
  obtain ⟨xs,x1,x2,x3,x4⟩:=h.block.parts
  have X1:=Lib.hid x1
  have X3:=Lib.hid x3
  have X4:=Lib.hid x4
  have AD:=Lib.hid (ad.agree (.of_ext ex))
  have X2:Hid (∀j,j<l.length * 7→(w.alloc (.cells #[] 119)).cell? (adr (some x) j)=some (xs.getD j undef)):=Lib.hid fun j hj=>cell_ext (x2 j hj) ex
  have B1:Hid ((0+l.length) * 56≤140737488355328):=Lib.hid (by omega)
  clear hown0 h ad x1 x2 x3 x4
  have hn1:=@Lib.run_eql_slice_nil Tryz.prog w 78 119 (some x) l.length cap 0 0 Tryz.underlying78
  go_enter Tryz.func72,Tryz.ntmps72
  go_wp2_with (at_builtin;refine wpList_appendW rfl (.tmp 5) (.tmp 6) 78 rfl 119 _ 7 56 Tryz.underlying78 info_round rfl (by decide) w.heap.size (.slice (some ⟨w.heap.size,0,none⟩) 0 0) 0 [] rfl OW.out S (some x) l.length cap xs rfl AD.out X1.out X2.out X4.out B1.out (by omega) (by simp) ?_;intro v3 w3 hown3 hb3 hag3 hv3)
  rw[Nat.zero_add,List.nil_append]at hown3
  have hbb:Below w.heap.size w w3:=ex.trans hb3
  have HO:=Lib.hid hown3
  have hlt3:=hown3.lt
  clear hown3 hag3 hv3 hb3
  go_wp2
  go_ret
  refine .mk hbb ⟨xs,HO.out,fun j hj=>?_⟩
  exact Kd.mono _ (Kd.agree _ (X3.out j hj) (.of_ext hbb)) fun b hb=>⟨hb,fun e=>by have:=(hlt3 b e).1;omega⟩
theorem cloneC_calls {S:Nat→Prop} {w:World} {v:Value} {l:List CaseD} (h:Sl kCase S w v l) (hn:l.length≤1000000):
  Calls Tryz.prog 95 #[v] w (Post w fun w' r=>OwnK kCase 123 w.heap.size (fun b=>S b∧b<w.heap.size) w' r l):=by
 obtain ⟨a,cap,rfl,ad,l1,l2,l3⟩:=h.form2
 cases a with
 | none=>
  have h0:l.length=0∧cap=0:=by
   rcases ad with h | ⟨b,off,e,_⟩
   ·exact h
   ·cases e
  obtain ⟨h0,rfl⟩:=h0
  obtain rfl:l=[]:=List.length_eq_zero_iff.1 h0
  clear h ad l1 l2 l3 h0
  have hn1:=@Lib.run_eql_slice_nil Tryz.prog w 22 123 none 0 0 0 0 Tryz.underlying22
  go_enter Tryz.func95,Tryz.ntmps95
  go_wp2
  go_ret
  exact .mk (.refl _ _) (OwnK.nil _ _ _ _ _)
 | some x=>
  have ex:=ext_alloc w (.cells #[] 123)
  have hown0:=(row_new w [] 123).ownsW (base:=w.heap.size) (z:=3) (n:=0) (Nat.le_refl _) rfl (by simp[maxLen])
  have OW:=Lib.hid hown0
  obtain ⟨xs,x1,x2,x3,x4⟩:=h.block.parts
  have X1:=Lib.hid x1
  have X3:=Lib.hid x3
  have X4:=Lib.hid x4
  have AD:=Lib.hid (ad.agree (.of_ext ex))
  have X2:Hid (∀j,j<l.length * 3→(w.alloc (.cells #[] 123)).cell? (adr (some x) j)=some (xs.getD j undef)):=Lib.hid fun j hj=>cell_ext (x2 j hj) ex
  have B1:Hid ((0+l.length) * 72≤140737488355328):=Lib.hid (by omega)
  clear hown0 h ad x1 x2 x3 x4
  have hn1:=@Lib.run_eql_slice_nil Tryz.prog w 22 123 (some x) l.length cap 0 0 Tryz.underlying22
  go_enter Tryz.func95,Tryz.ntmps95
  go_wp2_with (at_builtin;refine wpList_appendW rfl (.tmp 5) (.tmp 6) 22 rfl 123 _ 3 72 Tryz.underlying22 info_caseB rfl (by decide) w.heap.size (.slice (some ⟨w.heap.size,0,none⟩) 0 0) 0 [] rfl OW.out S (some x) l.length cap xs rfl AD.out X1.out X2.out X4.out B1.out (by omega) (by simp) ?_;intro v3 w3 hown3 hb3 hag3 hv3)
  rw[Nat.zero_add,List.nil_append]at hown3
  have hbb:Below w.heap.size w w3:=ex.trans hb3
  have HO:=Lib.hid hown3
  have hlt3:=hown3.lt
  clear hown3 hag3 hv3 hb3
  go_wp2
  go_ret
  refine .mk hbb ⟨xs,HO.out,fun j hj=>?_⟩
  exact Kd.mono _ (Kd.agree _ (X3.out j hj) (.of_ext hbb)) fun b hb=>⟨hb,fun e=>by have:=(hlt3 b e).1;omega⟩
theorem cloneS_calls {S:Nat→Prop} {w:World} {v:Value} {l:Moves} (h:Sl (kSl (kFlat 8)) S w v l) (hn:l.length≤1000000):
  Calls Tryz.prog 98 #[v] w (Post w fun w' r=>OwnK (kSl (kFlat 8)) 114 w.heap.size (fun b=>S b∧b<w.heap.size) w' r l):=by
 obtain ⟨a,cap,rfl,ad,l1,l2,l3⟩:=h.form2
 cases a with
 | none=>
  have h0:l.length=0∧cap=0:=by
   rcases ad with h | ⟨b,off,e,_⟩
   ·exact h
   ·cases e
  obtain ⟨h0,rfl⟩:=h0
  obtain rfl:l=[]:=List.length_eq_zero_iff.1 h0
  clear h ad l1 l2 l3 h0
  have hn1:=@Lib.run_eql_slice_nil Tryz.prog w 25 114 none 0 0 0 0 Tryz.underlying25
  go_enter Tryz.func98,Tryz.ntmps98
  go_wp2
  go_ret
  exact .mk (.refl _ _) (OwnK.nil _ _ _ _ _)
 | some x=>
  have ex:=ext_alloc w (.cells #[] 114)
  have hown0:=(row_new w [] 114).ownsW (base:=w.heap.size) (z:=1) (n:=0) (Nat.le_refl _) rfl (by simp[maxLen])
  have OW:=Lib.hid hown0
  obtain ⟨xs,x1,x2,x3,x4⟩:=h.block.parts
  have X1:=Lib.hid x1
  have X3:=Lib.hid x3
  have X4:=Lib.hid x4
  have AD:=Lib.hid (ad.agree (.of_ext ex))
  have X2:Hid (∀j,j<l.length * 1→(w.alloc (.cells #[] 114)).cell? (adr (some x) j)=some (xs.getD j undef)):=Lib.hid fun j hj=>cell_ext (x2 j hj) ex
  have B1:Hid ((0+l.length) * 24≤140737488355328):=Lib.hid (by omega)
  clear hown0 h ad x1 x2 x3 x4
  have hn1:=@Lib.run_eql_slice_nil Tryz.prog w 25 114 (some x) l.length cap 0 0 Tryz.underlying25
  go_enter Tryz.func98,Tryz.ntmps98
  go_wp2_with (at_builtin;refine wpList_appendW rfl (.tmp 5) (.tmp 6) 25 rfl 114 _ 1 24 Tryz.underlying25 info_mrow rfl (by decide) w.heap.size (.slice (some ⟨w.heap.size,0,none⟩) 0 0) 0 [] rfl OW.out S (some x) l.length cap xs rfl AD.out X1.out X2.out X4.out B1.out (by omega) (by simp) ?_;intro v3 w3 hown3 hb3 hag3 hv3)
  rw[Nat.zero_add,List.nil_append]at hown3
  have hbb:Below w.heap.size w w3:=ex.trans hb3
  have HO:=Lib.hid hown3
  have hlt3:=hown3.lt
  clear hown3 hag3 hv3 hb3
  go_wp2
  go_ret
  refine .mk hbb ⟨xs,HO.out,fun j hj=>?_⟩
  exact Kd.mono _ (Kd.agree _ (X3.out j hj) (.of_ext hbb)) fun b hb=>⟨hb,fun e=>by have:=(hlt3 b e).1;omega⟩
theorem cloneM_calls {S:Nat→Prop} {w:World} {v:Value} {l:List (List Int)} (h:Sl (kFlat 8) S w v l) (hn:l.length≤1000000):
  Calls Tryz.prog 99 #[v] w (Post w fun w' r=>OwnK (kFlat 8) 121 w.heap.size (fun b=>S b∧b<w.heap.size) w' r l):=by
 obtain ⟨a,cap,rfl,ad,l1,l2,l3⟩:=h.form2
 cases a with
 | none=>
  have h0:l.length=0∧cap=0:=by
   rcases ad with h | ⟨b,off,e,_⟩
   ·exact h
   ·cases e
  obtain ⟨h0,rfl⟩:=h0
  obtain rfl:l=[]:=List.length_eq_zero_iff.1 h0
  clear h ad l1 l2 l3 h0
  have hn1:=@Lib.run_eql_slice_nil Tryz.prog w 114 121 none 0 0 0 0 Tryz.underlying114
  go_enter Tryz.func99,Tryz.ntmps99
  go_wp2
  go_ret
  exact .mk (.refl _ _) (OwnK.nil _ _ _ _ _)
 | some x=>
  have ex:=ext_alloc w (.cells #[] 121)
  have hown0:=(row_new w [] 121).ownsW (base:=w.heap.size) (z:=8) (n:=0) (Nat.le_refl _) rfl (by simp[maxLen])
  have OW:=Lib.hid hown0
  obtain ⟨xs,x1,x2,x3,x4⟩:=h.block.parts
  have X1:=Lib.hid x1
  have X3:=Lib.hid x3
  have X4:=Lib.hid x4
  have AD:=Lib.hid (ad.agree (.of_ext ex))
  have X2:Hid (∀j,j<l.length * 8→(w.alloc (.cells #[] 121)).cell? (adr (some x) j)=some (xs.getD j undef)):=Lib.hid fun j hj=>cell_ext (x2 j hj) ex
  have B1:Hid ((0+l.length) * 64≤140737488355328):=Lib.hid (by omega)
  clear hown0 h ad x1 x2 x3 x4
  have hn1:=@Lib.run_eql_slice_nil Tryz.prog w 114 121 (some x) l.length cap 0 0 Tryz.underlying114
  go_enter Tryz.func99,Tryz.ntmps99
  go_wp2_with (at_builtin;refine wpList_appendW rfl (.tmp 5) (.tmp 6) 114 rfl 121 _ 8 64 Tryz.underlying114 info_moveB rfl (by decide) w.heap.size (.slice (some ⟨w.heap.size,0,none⟩) 0 0) 0 [] rfl OW.out S (some x) l.length cap xs rfl AD.out X1.out X2.out X4.out B1.out (by omega) (by simp) ?_;intro v3 w3 hown3 hb3 hag3 hv3)
  rw[Nat.zero_add,List.nil_append]at hown3
  have hbb:Below w.heap.size w w3:=ex.trans hb3
  have HO:=Lib.hid hown3
  have hlt3:=hown3.lt
  clear hown3 hag3 hv3 hb3
  go_wp2
  go_ret
  refine .mk hbb ⟨xs,HO.out,fun j hj=>?_⟩
  exact Kd.mono _ (Kd.agree _ (X3.out j hj) (.of_ext hbb)) fun b hb=>⟨hb,fun e=>by have:=(hlt3 b e).1;omega⟩
end Go.Proofs.YtaijafjfafbcfaaGreat
