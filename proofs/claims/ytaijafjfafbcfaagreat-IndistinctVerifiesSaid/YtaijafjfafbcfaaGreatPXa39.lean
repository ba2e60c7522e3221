/- Part of the proof that the laws answer true for every input. -/
import Derived.Test.YtaijafjfafbcfaaGreatPXa38
set_option linter.unusedSimpArgs false
set_option linter.unnecessarySimpa false
set_option linter.unusedVariables false
set_option maxRecDepth 100000
set_option maxHeartbeats 40000000
namespace Go.Proofs.YtaijafjfafbcfaaGreat
open Go.RowKit
attribute [local go_sem ↓] Go.wp_at_zero Go.wp_at_succ
theorem info_linkZ:(Tryz.prog.info? 70).map (fun i=>i.size)=some 2:=by kernel_rfl
theorem idx_link {S:Nat→Prop} {w:World} {a:Option Addr} {n cap:Nat} (h:Ad S w a n cap):∀k:Nat,k<n→∀W:World,(Instr.indexAt 53 (.slice a n cap) (.int .i64 k)).run Tryz.prog W=.ok (.pointer (some (adr a (k * 2)))) W:=by
 obtain ⟨i,hi,hs⟩:=Option.map_eq_some_iff.1 info_linkZ
 exact idx_wide Tryz.underlying53 hi hs h
theorem linkE_in {s:SysF} {w:List (List Int)} {i:Nat} (h:linkE s w i=0):∃x:Nat,nth (nthL w i) 0=x∧x<s.ex.length:=by
 unfold linkE at h
 by_cases h1:nth (nthL w i) 0<0∨(s.ex.length:Int)≤nth (nthL w i) 0
 ·rw[if_pos h1]at h;cases h
 ·exact ⟨(nth (nthL w i) 0).toNat,by omega,by omega⟩
theorem rlink_calls {S S2:Nat→Prop} {w:World} {v vw:Value} {s:SysF} {l:List (List Int)} {i:Nat} {iz:Int} (h:SysV S w v s) (hg:GoodS s s.N s.K) (hw:Sl (kFlat 2) S2 w vw l) (hi:i<l.length) (hiz:iz=i) (hprev:∀m,i=m+1→∃y:Nat,nth (nthL l m) 0=y∧y<s.ex.length):
  Calls Tryz.prog 67 #[v,vw,.int .i64 iz] w (Post w fun _ r=>r=.int .i64 (linkE s l i)):=by
 have KL:Hid (∀q e f:Nat,q<s.N→e<s.ex.length→f<s.ex.length→∀W,Below w.heap.size w W→Calls Tryz.prog 59 #[v,.int .i64 q,.int .i64 e,.int .i64 f] W (Post W fun _ r=>r=.bool (lkB s q e f))):=Lib.hid fun q e f hq he hf W hW=>rlinks_calls (h.ext hW) hg hq he hf
 have htn:s.tn=(s.N:Int):=hg.tn
 obtain ⟨vc,vs,vt,vx,rfl,hc,hs,ht,hx⟩:=h
 obtain ⟨ca,cc,rfl,_⟩:=hc.form
 obtain ⟨sa,sc,rfl,_⟩:=hs.form
 obtain ⟨ta,tc,rfl,_⟩:=ht.form
 obtain ⟨xa,xc,rfl,xad,_⟩:=hx.form2
 obtain ⟨wa,wc,rfl,wad,_,_,hwl⟩:=hw.form2
 have q1:∀W:World,(Instr.indexAt 53 (.slice wa l.length wc) (.int .i64 iz)).run Tryz.prog W=.ok (.pointer (some (adr wa (i * 2)))) W:=by rw[hiz];exact idx_link wad i hi
 obtain ⟨z0,z1⟩:=hw.nums (k:=i) hi (by decide)
 have z1:=z1 1 (by decide)
 have HPV:Hid (∀m,i=m+1→∃y:Nat,nth (nthL l m) 0=y∧y<s.ex.length∧w.cell? (adr wa (m * 2))=some (.int .i64 y)∧∀W:World,(Instr.indexAt 53 (.slice wa l.length wc) (.int .i64 m)).run Tryz.prog W=.ok (.pointer (some (adr wa (m * 2)))) W):=Lib.hid fun m hm=>by
  obtain ⟨y,hy,hyl⟩:=hprev m hm
  have:=(hw.nums (k:=m) (by omega) (by decide)).1
  rw[hy]at this
  exact ⟨y,hy,hyl,this,idx_link wad m (by omega)⟩
 have HE:Hid (linkE s l i=if nth (nthL l i) 0<0∨(s.ex.length:Int)≤nth (nthL l i) 0 then 6 else
  if i=0 then (if nth (nthL l i) 1≠ -1 then 3 else 0) else
  if nth (nthL l i) 1<0∨(s.N:Int)≤nth (nthL l i) 1 then 2 else
  if lkB s (nth (nthL l i) 1).toNat (nth (nthL l (i - 1)) 0).toNat (nth (nthL l i) 0).toNat then 0 else 18):=Lib.hid rfl
 obtain ⟨r,hr⟩:∃r,r=linkE s l i:=⟨_,rfl⟩
 rw[←hr]at HE ⊢
 obtain ⟨x,hxx⟩:∃x,x=nth (nthL l i) 0:=⟨_,rfl⟩
 obtain ⟨q,hqq⟩:∃q,q=nth (nthL l i) 1:=⟨_,rfl⟩
 rw[←hxx]at z0 HE
 rw[←hqq]at z1 HE
 rw[htn]at KL ⊢
 have ex:=ext_alloc w (.cells #[.int .i64 s.p.n,.int .i64 s.p.ins,.int .i64 s.p.outs,.slice ca s.p.cs.length cc,.int .i64 s.p.an,.slice sa s.p.st.length sc,.int .i64 s.p.rounds,.int .i64 s.N,.slice ta s.tab.length tc,.slice xa s.ex.length xc] 35)
 have R0:=row_new w [.int .i64 s.p.n,.int .i64 s.p.ins,.int .i64 s.p.outs,.slice ca s.p.cs.length cc,.int .i64 s.p.an,.slice sa s.p.st.length sc,.int .i64 s.p.rounds,.int .i64 s.N,.slice ta s.tab.length tc,.slice xa s.ex.length xc] 35
 replace z0:=cell_ext z0 ex
 replace z1:=cell_ext z1 ex
 have bk:=World.block_lt_of_cell? _ _ z0
 have HIZ:=Lib.hid hiz
 have hib:(iz:Int)≤140737488355328∧0≤iz:=by omega
 have R1:=row_new (w.alloc (.cells #[.int .i64 s.p.n,.int .i64 s.p.ins,.int .i64 s.p.outs,.slice ca s.p.cs.length cc,.int .i64 s.p.an,.slice sa s.p.st.length sc,.int .i64 s.p.rounds,.int .i64 s.N,.slice ta s.tab.length tc,.slice xa s.ex.length xc] 35)) [.int .i64 x,.int .i64 q] 70
 replace R0:=R0.alloc (.cells #[.int .i64 x,.int .i64 q] 70)
 have ex2:=ext_alloc' ex (.cells #[.int .i64 x,.int .i64 q] 70)
 rw[World.size_alloc]at R1
 clear hc hs ht hx xad hg htn hr hxx hqq hw wad hiz hprev ex hi
 go_enter Tryz.func67,Tryz.ntmps67
 go_upto_region 2 with fail
 obtain ⟨w2,hw2⟩:∃w2,w2=(w.alloc (.cells #[.int .i64 s.p.n,.int .i64 s.p.ins,.int .i64 s.p.outs,.slice ca s.p.cs.length cc,.int .i64 s.p.an,.slice sa s.p.st.length sc,.int .i64 s.p.rounds,.int .i64 s.N,.slice ta s.tab.length tc,.slice xa s.ex.length xc] 35)).alloc (.cells #[.int .i64 x,.int .i64 q] 70):=⟨_,rfl⟩
 rw[←hw2]at R0 R1 ex2 ⊢
 clear hw2 z0 z1 bk q1
 have x0:=R1.cell (j:=0) rfl
 have x1:=R1.cell (j:=1) rfl
 have lx:=R1.lt
 have t9:=R0.cell (j:=9) rfl
 have t7:=R0.cell (j:=7) rfl
 have l0:=R0.lt
 by_cases h1:x<0
 ·have d1:decide (x<0)=true:=decide_eq_true h1
  have HR2:=Lib.hid (HE.out.trans (if_pos (.inl h1)))
  go_wp2
  go_ret
  exact .mk ex2 (int_eq HR2.out.symm)
 have d1:decide (x<0)=false:=decide_eq_false h1
 by_cases h2:(s.ex.length:Int)≤x
 ·have d2:decide ((s.ex.length:Int)≤x)=true:=decide_eq_true h2
  have HR2:=Lib.hid (HE.out.trans (if_pos (.inr h2)))
  go_wp2
  go_ret
  exact .mk ex2 (int_eq HR2.out.symm)
 have d2:decide ((s.ex.length:Int)≤x)=false:=decide_eq_false h2
 have HE2:=Lib.hid (HE.out.trans (if_neg (fun h=>by rcases h with h | h;exact h1 h;exact h2 h)))
 clear HE
 have HX:Hid (∃xn:Nat,x=xn∧xn<s.ex.length):=Lib.hid ⟨x.toNat,by omega,by omega⟩
 by_cases h3:i=0
 ·have d3:(iz==0)=true:=by have:=HIZ.out;simp;omega
  have HE3:=Lib.hid (HE2.out.trans (if_pos h3))
  clear h3
  by_cases h4:q= -1
  ·have d4:(q != -1)=false:=by simp[h4]
   have HR2:=Lib.hid (HE3.out.trans (if_neg (by simp[h4])))
   clear h4
   go_wp2
   go_ret
   exact .mk ex2 (int_eq HR2.out.symm)
  ·have d4:(q != -1)=true:=by simp[h4]
   have HR2:=Lib.hid (HE3.out.trans (if_pos h4))
   clear h4
   go_wp2
   go_ret
   exact .mk ex2 (int_eq HR2.out.symm)
 have d3:(iz==0)=false:=by have:=HIZ.out;simp;omega
 have HE3:=Lib.hid (HE2.out.trans (if_neg h3))
 obtain ⟨m,hm⟩:∃m,i=m+1:=⟨i - 1,by omega⟩
 obtain ⟨yn,hy0,hyl,hyc,qy⟩:=HPV.out m hm
 have HE4:Hid (r=if q<0∨(s.N:Int)≤q then 2 else if lkB s q.toNat (nth (nthL l m) 0).toNat x.toNat then 0 else 18):=Lib.hid (by rw[HE3.out,hm,Nat.add_sub_cancel])
 have dW:IntKind.i64.wrap (iz - 1)=(m:Int):=by
  have:=HIZ.out
  rw[IntWalk.i64_left,IntWalk.wrap64_in _ (by omega)];omega
 have DW:=Lib.hid dW
 clear h3 HE2 HE3 hm dW
 by_cases h5:q<0
 ·have d5:decide (q<0)=true:=decide_eq_true h5
  have HR2:=Lib.hid (HE4.out.trans (if_pos (.inl h5)))
  clear hyc qy
  go_wp2
  go_ret
  exact .mk ex2 (int_eq HR2.out.symm)
 have d5:decide (q<0)=false:=decide_eq_false h5
 by_cases h6:(s.N:Int)≤q
 ·have d6:decide ((s.N:Int)≤q)=true:=decide_eq_true h6
  have HR2:=Lib.hid (HE4.out.trans (if_pos (.inr h6)))
  clear hyc qy
  go_wp2
  go_ret
  exact .mk ex2 (int_eq HR2.out.symm)
 have d6:decide ((s.N:Int)≤q)=false:=decide_eq_false h6
 have HE5:=Lib.hid (HE4.out.trans (if_neg (fun h=>by rcases h with h | h;exact h5 h;exact h6 h)))
 rw[hy0]at HE5
 obtain ⟨xn,hxn,hxl⟩:=HX.out
 obtain ⟨qn,hqn⟩:∃qn:Nat,q=qn:=⟨q.toNat,by omega⟩
 have KL2:Hid (∀W,Below w.heap.size w W→Calls Tryz.prog 59 #[.agg #[.int .i64 s.p.n,.int .i64 s.p.ins,.int .i64 s.p.outs,.slice ca s.p.cs.length cc,.int .i64 s.p.an,.slice sa s.p.st.length sc,.int .i64 s.p.rounds,.int .i64 s.N,.slice ta s.tab.length tc,.slice xa s.ex.length xc],.int .i64 q,.int .i64 (yn:Int),.int .i64 x] W (Post W fun _ r=>r=.bool (lkB s q.toNat (Int.toNat (yn:Int)) x.toNat))):=Lib.hid fun W hW=>by
  rw[hqn,hxn,Int.toNat_natCast,Int.toNat_natCast,Int.toNat_natCast]
  exact KL.out qn yn xn (by omega) hyl hxl W hW
 obtain ⟨y,hyy⟩:∃y:Int,y=yn:=⟨_,rfl⟩
 rw[←hyy]at KL2 HE5 hyc
 obtain ⟨bb,hbb⟩:∃bb,bb=lkB s q.toNat y.toNat x.toNat:=⟨_,rfl⟩
 rw[←hbb]at KL2 HE5
 have HYC:Hid (∀W,Below w.heap.size w W→W.cell? (adr wa (m * 2))=some (.int .i64 y)):=Lib.hid fun W hW=>cell_ext hyc hW
 have HR0:=Lib.hid R0
 have HR1:=Lib.hid R1
 have HEX:=Lib.hid ex2
 clear h1 h2 h5 h6 HX KL HPV HE4 hy0 hyl hxn hxl hqn hyy hbb hyc R0 R1 ex2
 go_upto_region 10 with fail
 clear x0 x1 lx t9 t7 l0 d1 d2 d3 d5 d6
 have dW:=DW.out
 have KEEP:Hid (∀w',Below w2.heap.size w2 w'→(fun w':World=>w'.cell? ⟨w.heap.size,0,none⟩=some (.int .i64 s.p.n)∧w'.cell? ⟨w.heap.size,1,none⟩=some (.int .i64 s.p.ins)∧w'.cell? ⟨w.heap.size,2,none⟩=some (.int .i64 s.p.outs)∧w'.cell? ⟨w.heap.size,3,none⟩=some (.slice ca s.p.cs.length cc)∧w'.cell? ⟨w.heap.size,4,none⟩=some (.int .i64 s.p.an)∧w'.cell? ⟨w.heap.size,5,none⟩=some (.slice sa s.p.st.length sc)∧w'.cell? ⟨w.heap.size,6,none⟩=some (.int .i64 s.p.rounds)∧w'.cell? ⟨w.heap.size,7,none⟩=some (.int .i64 s.N)∧w'.cell? ⟨w.heap.size,8,none⟩=some (.slice ta s.tab.length tc)∧w'.cell? ⟨w.heap.size,9,none⟩=some (.slice xa s.ex.length xc)∧w'.cell? ⟨w.heap.size+1,0,none⟩=some (.int .i64 x)∧w'.cell? ⟨w.heap.size+1,1,none⟩=some (.int .i64 q)∧w'.cell? (adr wa (m * 2))=some (.int .i64 y)) w'):=Lib.hid fun w' hw=>⟨(HR0.out.ext hw).cell (j:=0) rfl,(HR0.out.ext hw).cell (j:=1) rfl,(HR0.out.ext hw).cell (j:=2) rfl,(HR0.out.ext hw).cell (j:=3) rfl,(HR0.out.ext hw).cell (j:=4) rfl,(HR0.out.ext hw).cell (j:=5) rfl,(HR0.out.ext hw).cell (j:=6) rfl,(HR0.out.ext hw).cell (j:=7) rfl,(HR0.out.ext hw).cell (j:=8) rfl,(HR0.out.ext hw).cell (j:=9) rfl,(HR1.out.ext hw).cell (j:=0) rfl,(HR1.out.ext hw).cell (j:=1) rfl,HYC.out _ (ext_trans HEX.out hw)⟩
 go_wp2
 refine region_E (fun w':World=>w'.cell? ⟨w.heap.size,0,none⟩=some (.int .i64 s.p.n)∧w'.cell? ⟨w.heap.size,1,none⟩=some (.int .i64 s.p.ins)∧w'.cell? ⟨w.heap.size,2,none⟩=some (.int .i64 s.p.outs)∧w'.cell? ⟨w.heap.size,3,none⟩=some (.slice ca s.p.cs.length cc)∧w'.cell? ⟨w.heap.size,4,none⟩=some (.int .i64 s.p.an)∧w'.cell? ⟨w.heap.size,5,none⟩=some (.slice sa s.p.st.length sc)∧w'.cell? ⟨w.heap.size,6,none⟩=some (.int .i64 s.p.rounds)∧w'.cell? ⟨w.heap.size,7,none⟩=some (.int .i64 s.N)∧w'.cell? ⟨w.heap.size,8,none⟩=some (.slice ta s.tab.length tc)∧w'.cell? ⟨w.heap.size,9,none⟩=some (.slice xa s.ex.length xc)∧w'.cell? ⟨w.heap.size+1,0,none⟩=some (.int .i64 x)∧w'.cell? ⟨w.heap.size+1,1,none⟩=some (.int .i64 q)∧w'.cell? (adr wa (m * 2))=some (.int .i64 y)) (fun i=>false) (by kernel_rfl) ?_ (fun hHeld=>?_)
 ·exact KEEP.out _ (drewN_below w2.heap.size w2 1)
 refine anyE_take 0 (v:=?_) rfl (by kernel_rfl) (fun _ _ _ h=>h) (by rfl) ?hy0 hHeld ?rest0
 case hy0=>(intro w hSw;(try dsimp only at hSw);go_simp;try with_reducible rfl)
 try simp only[Act.put,zsa,zsz,zss]
 refine anyE_take 1 (v:=?_) rfl (by kernel_rfl) (fun _ _ _ h=>h) (by rfl) ?hy1 hHeld ?rest1
 case hy1=>(intro w hSw;(try dsimp only at hSw);go_simp;try with_reducible rfl)
 try simp only[Act.put,zsa,zsz,zss]
 refine anyE_take 2 (v:=?_) rfl (by kernel_rfl) (fun _ _ _ h=>h) (by rfl) ?hy2 hHeld ?rest2
 case hy2=>(intro w hSw;(try dsimp only at hSw);go_simp;try with_reducible rfl)
 try simp only[Act.put,zsa,zsz,zss]
 refine anyE_take 3 (v:=?_) rfl (by kernel_rfl) (fun _ _ _ h=>h) (by rfl) ?hy3 hHeld ?rest3
 case hy3=>(intro w hSw;(try dsimp only at hSw);go_simp;try with_reducible rfl)
 try simp only[Act.put,zsa,zsz,zss]
 refine anyE_take 4 (v:=?_) rfl (by kernel_rfl) (fun _ _ _ h=>h) (by rfl) ?hy4 hHeld ?rest4
 case hy4=>(intro w hSw;(try dsimp only at hSw);go_simp;try with_reducible rfl)
 try simp only[Act.put,zsa,zsz,zss]
 refine anyE_take 5 (v:=?_) rfl (by kernel_rfl) (fun _ _ _ h=>h) (by rfl) ?hy5 hHeld ?rest5
 case hy5=>(intro w hSw;(try dsimp only at hSw);go_simp;try with_reducible rfl)
 try simp only[Act.put,zsa,zsz,zss]
 refine anyE_take 6 (v:=?_) rfl (by kernel_rfl) (fun _ _ _ h=>h) (by rfl) ?hy6 hHeld ?rest6
 case hy6=>(intro w hSw;(try dsimp only at hSw);go_simp;try with_reducible rfl)
 try simp only[Act.put,zsa,zsz,zss]
 refine anyE_take 7 (v:=?_) rfl (by kernel_rfl) (fun _ _ _ h=>h) (by rfl) ?hy7 hHeld ?rest7
 case hy7=>(intro w hSw;(try dsimp only at hSw);go_simp;try with_reducible rfl)
 try simp only[Act.put,zsa,zsz,zss]
 refine anyE_take 8 (v:=?_) rfl (by kernel_rfl) (fun _ _ _ h=>h) (by rfl) ?hy8 hHeld ?rest8
 case hy8=>(intro w hSw;(try dsimp only at hSw);go_simp;try with_reducible rfl)
 try simp only[Act.put,zsa,zsz,zss]
 refine anyE_take 9 (v:=?_) rfl (by kernel_rfl) (fun _ _ _ h=>h) (by rfl) ?hy9 hHeld ?rest9
 case hy9=>(intro w hSw;(try dsimp only at hSw);go_simp;try with_reducible rfl)
 try simp only[Act.put,zsa,zsz,zss]
 refine anyE_take 10 (v:=?_) rfl (by kernel_rfl) (fun _ _ _ h=>h) (by rfl) ?hy10 hHeld ?rest10
 case hy10=>(intro w hSw;(try dsimp only at hSw);go_simp;try with_reducible rfl)
 try simp only[Act.put,zsa,zsz,zss]
 refine anyE_one 11 rfl (by kernel_rfl) (fun K hK=>?_)
 (go_simp;go_at_call 59;refine (KL2.out _ (ext_trans HEX.out (drewN_below w2.heap.size w2 1))).mono ?_;rintro _ v1 ⟨_,rfl,hb,rfl⟩;have y1:=ext_trans (drewN_below w2.heap.size w2 1) hb;clear hb)
 refine hK.out _ _ (fun _=>KEEP.out _ y1) (fun hHeld=>?_);replace hHeld:=hHeld rfl
 clear hK K
 try simp only[Act.put,zsa,zsz,zss]
 refine anyE_take 12 (v:=?_) rfl (by kernel_rfl) (fun _ _ _ h=>h) (by rfl) ?hy12 hHeld ?rest12
 case hy12=>(intro w hSw;(try dsimp only at hSw);go_simp;try with_reducible rfl)
 try simp only[Act.put,zsa,zsz,zss]
 refine anyE_done (by kernel_rfl) ?_ _
 have HF:=Lib.hid (ext_trans HEX.out y1)
 clear hHeld KEEP y1 dW qy
 cases bb with
 | true=>
  go_wp2
  go_ret
  exact .mk HF.out (int_eq (by rw[HE5.out];rfl))
 | false=>
  go_wp2
  go_ret
  exact .mk HF.out (int_eq (by rw[HE5.out];rfl))
end Go.Proofs.YtaijafjfafbcfaaGreat
namespace Go.Proofs.YtaijafjfafbcfaaGreat
open Go.RowKit
attribute [local go_sem ↓] Go.wp_at_zero Go.wp_at_succ
theorem rcheckW_calls {S S2:Nat→Prop} {w:World} {v vw:Value} {s:SysF} {l:List (List Int)} (h:SysV S w v s) (hg:GoodS s s.N s.K) (hw:Sl (kFlat 2) S2 w vw l):
  Calls Tryz.prog 47 #[v,vw] w (Post w fun _ r=>r=.int .i64 (chkW s l)):=by
 have KL:Hid (∀i,i<l.length→Zeros (linkE s l) i→∀W,Below w.heap.size w W→Calls Tryz.prog 67 #[v,vw,.int .i64 i] W (Post W fun _ r=>r=.int .i64 (linkE s l i))):=Lib.hid fun i hi hz W hW=>rlink_calls (h.ext hW) hg (hw.ext hW) hi rfl fun m hm=>linkE_in (hz m (by omega))
 have htn:s.tn=(s.N:Int):=hg.tn
 have HC:Hid (chkW s l=if l.length=0 then 16 else if 4096<l.length then 5 else firstE (linkE s l) l.length):=Lib.hid rfl
 obtain ⟨r,hr⟩:∃r,r=chkW s l:=⟨_,rfl⟩
 rw[←hr]at HC ⊢
 obtain ⟨le,hle⟩:∃le,le=linkE s l:=⟨_,rfl⟩
 rw[←hle]at HC KL
 obtain ⟨vc,vs,vt,vx,rfl,hc,hs,ht,hx⟩:=h
 obtain ⟨ca,cc,rfl,_⟩:=hc.form
 obtain ⟨sa,sc,rfl,_⟩:=hs.form
 obtain ⟨ta,tc,rfl,_⟩:=ht.form
 obtain ⟨xa,xc,rfl,xad,_⟩:=hx.form2
 obtain ⟨wa,wc,rfl,wad,_,_,hwl⟩:=hw.form2
 rw[htn]at KL ⊢
 have ex:=ext_alloc w (.cells #[.int .i64 s.p.n,.int .i64 s.p.ins,.int .i64 s.p.outs,.slice ca s.p.cs.length cc,.int .i64 s.p.an,.slice sa s.p.st.length sc,.int .i64 s.p.rounds,.int .i64 s.N,.slice ta s.tab.length tc,.slice xa s.ex.length xc] 35)
 have R0:=row_new w [.int .i64 s.p.n,.int .i64 s.p.ins,.int .i64 s.p.outs,.slice ca s.p.cs.length cc,.int .i64 s.p.an,.slice sa s.p.st.length sc,.int .i64 s.p.rounds,.int .i64 s.N,.slice ta s.tab.length tc,.slice xa s.ex.length xc] 35
 clear hc hs ht hx xad hg htn hw wad hr hle
 by_cases h0:l.length=0
 ·have HR:=Lib.hid (HC.out.trans (if_pos h0))
  have d0:((l.length:Int)==0)=true:=by simp[h0]
  clear h0
  go_enter Tryz.func47,Tryz.ntmps47
  go_wp2
  go_ret
  exact .mk ex (int_eq HR.out.symm)
 have HC2:=Lib.hid (HC.out.trans (if_neg h0))
 have d0:((l.length:Int)==0)=false:=by rw[beq_eq_false_iff_ne];omega
 by_cases h1:4096<l.length
 ·have HR:=Lib.hid (HC2.out.trans (if_pos h1))
  have d1:decide ((4096:Int)<(l.length:Int))=true:=decide_eq_true (by omega)
  have d1':decide (4096<l.length)=true:=decide_eq_true h1
  clear h0
  go_enter Tryz.func47,Tryz.ntmps47
  go_wp2
  go_ret
  exact .mk ex (int_eq HR.out.symm)
 have HC3:=Lib.hid (HC2.out.trans (if_neg h1))
 have d1:decide ((4096:Int)<(l.length:Int))=false:=decide_eq_false (by omega)
 have d1':decide (4096<l.length)=false:=decide_eq_false h1
 clear h0 HC HC2
 go_enter Tryz.func47,Tryz.ntmps47
 go_wp2
 clear d0 d1 d1'
 go_loopw [5,6] (fun i _ wr=>∃k:Nat,k≤l.length∧i=.int .i64 k∧Below w.heap.size w wr∧Row wr w.heap.size 35 [.int .i64 s.p.n,.int .i64 s.p.ins,.int .i64 s.p.outs,.slice ca s.p.cs.length cc,.int .i64 s.p.an,.slice sa s.p.st.length sc,.int .i64 s.p.rounds,.int .i64 s.N,.slice ta s.tab.length tc,.slice xa s.ex.length xc]∧Hid (Zeros le k)) (fun i _ _=>l.length - (intOf i).toNat)
 case atStart=>exact ⟨0,Nat.zero_le _,rfl,ex,R0,Lib.hid (Zeros.zero _)⟩
 case round=>
  clear ex R0
  obtain ⟨k,hk,rfl,ex,R0,HZ⟩:=hrel
  have t0:=R0.cell (j:=0) rfl
  have t1:=R0.cell (j:=1) rfl
  have t2:=R0.cell (j:=2) rfl
  have t3:=R0.cell (j:=3) rfl
  have t4:=R0.cell (j:=4) rfl
  have t5:=R0.cell (j:=5) rfl
  have t6:=R0.cell (j:=6) rfl
  have t7:=R0.cell (j:=7) rfl
  have t8:=R0.cell (j:=8) rfl
  have t9:=R0.cell (j:=9) rfl
  have l0:=R0.lt
  by_cases hlt:k<l.length
  case neg=>
   have HR:=Lib.hid (HC3.out.trans (HZ.out.done (by omega)))
   go_wp2
   go_ret
   exact .mk ex (int_eq HR.out.symm)
  have KL2:=Lib.hid (KL.out k hlt HZ.out wr ex)
  obtain ⟨x,hx⟩:∃x,x=le k:=⟨_,rfl⟩
  rw[←hx]at KL2
  have HX:=Lib.hid hx.symm
  clear hx
  go_wp2_with fail
  refine (KL2.out).mono ?_
  rintro _ w1 ⟨_,rfl,hb,rfl⟩
  replace R0:=R0.ext hb
  replace ex:=ext_trans ex hb
  clear hb KL2 t0 t1 t2 t3 t4 t5 t6 t7 t8 t9 l0
  by_cases hx0:x=0
  case pos=>
   have dx:(x !=0)=false:=by simp[hx0]
   have HZ2:=Lib.hid (HZ.out.next (by rw[HX.out,hx0]))
   clear hx0
   go_wp2
   go_roundw
   case rel=>exact ⟨k+1,by omega,by go_num,ex,R0,HZ2⟩
   case measure=>simp[intOf];omega
  have dx:(x !=0)=true:=by simp[hx0]
  have HR:=Lib.hid (HC3.out.trans (HZ.out.stop HX.out hx0 hlt))
  clear hx0
  go_wp2
  go_ret
  exact .mk ex (int_eq HR.out.symm)
theorem rverifyW_calls {S S2:Nat→Prop} {w:World} {v vw:Value} {s:SysF} {l:List (List Int)} (h:SysV S w v s) (hf:SmallP s.p) (hw:Sl (kFlat 2) S2 w vw l):
  Calls Tryz.prog 25 #[v,vw] w (Post w fun _ r=>r=.int .i64 (verW s l)):=by
 have KV:Hid (∀W,Below w.heap.size w W→Calls Tryz.prog 39 #[v] W (Post W fun _ r=>r=.int .i64 (verE s))):=Lib.hid fun W hW=>rverify_calls (h.ext hW) hf
 have KC:Hid (verE s=0→∀W,Below w.heap.size w W→Calls Tryz.prog 47 #[v,vw] W (Post W fun _ r=>r=.int .i64 (chkW s l))):=Lib.hid fun h0 W hW=>rcheckW_calls (h.ext hW) (good_sys h0 h.moves8) (hw.ext hW)
 have HV:Hid (verW s l=if verE s=0 then chkW s l else verE s):=Lib.hid rfl
 obtain ⟨r,hr⟩:∃r,r=verW s l:=⟨_,rfl⟩
 rw[←hr]at HV ⊢
 obtain ⟨ve,hve⟩:∃x,x=verE s:=⟨_,rfl⟩
 rw[←hve]at KV KC HV
 obtain ⟨c,hc0⟩:∃x,x=chkW s l:=⟨_,rfl⟩
 rw[←hc0]at KC HV
 obtain ⟨vc,vs,vt,vx,rfl,hc,hs,ht,hx⟩:=h
 obtain ⟨ca,cc,rfl,_⟩:=hc.form
 obtain ⟨sa,sc,rfl,_⟩:=hs.form
 obtain ⟨ta,tc,rfl,_⟩:=ht.form
 obtain ⟨xa,xc,rfl,xad,_⟩:=hx.form2
 obtain ⟨wa,wc,rfl,wad,_,_,hwl⟩:=hw.form2
 have ex:=ext_alloc w (.cells #[.int .i64 s.p.n,.int .i64 s.p.ins,.int .i64 s.p.outs,.slice ca s.p.cs.length cc,.int .i64 s.p.an,.slice sa s.p.st.length sc,.int .i64 s.p.rounds,.int .i64 s.tn,.slice ta s.tab.length tc,.slice xa s.ex.length xc] 35)
 have R0:=row_new w [.int .i64 s.p.n,.int .i64 s.p.ins,.int .i64 s.p.outs,.slice ca s.p.cs.length cc,.int .i64 s.p.an,.slice sa s.p.st.length sc,.int .i64 s.p.rounds,.int .i64 s.tn,.slice ta s.tab.length tc,.slice xa s.ex.length xc] 35
 have t0:=R0.cell (j:=0) rfl
 have t1:=R0.cell (j:=1) rfl
 have t2:=R0.cell (j:=2) rfl
 have t3:=R0.cell (j:=3) rfl
 have t4:=R0.cell (j:=4) rfl
 have t5:=R0.cell (j:=5) rfl
 have t6:=R0.cell (j:=6) rfl
 have t7:=R0.cell (j:=7) rfl
 have t8:=R0.cell (j:=8) rfl
 have t9:=R0.cell (j:=9) rfl
 have l0:=R0.lt
 clear hc hs ht hx xad hf hw wad hr hve hc0
 go_enter Tryz.func25,Tryz.ntmps25
 go_wp2_with fail
 refine (KV.out _ ex).mono ?_
 rintro _ w1 ⟨_,rfl,hb,rfl⟩
 replace R0:=R0.ext hb
 replace ex:=ext_trans ex hb
 clear hb KV t0 t1 t2 t3 t4 t5 t6 t7 t8 t9 l0
 by_cases hv:ve=0
 case neg=>
  have d0:(ve !=0)=true:=by simp[hv]
  have HR:=Lib.hid (HV.out.trans (if_neg hv))
  clear hv
  go_wp2
  go_ret
  exact .mk ex (int_eq HR.out.symm)
 have HR:=Lib.hid (HV.out.trans (if_pos hv))
 have KC2:=Lib.hid (KC.out hv)
 have d0:(ve !=0)=false:=by simp[hv]
 have t0:=R0.cell (j:=0) rfl
 have t1:=R0.cell (j:=1) rfl
 have t2:=R0.cell (j:=2) rfl
 have t3:=R0.cell (j:=3) rfl
 have t4:=R0.cell (j:=4) rfl
 have t5:=R0.cell (j:=5) rfl
 have t6:=R0.cell (j:=6) rfl
 have t7:=R0.cell (j:=7) rfl
 have t8:=R0.cell (j:=8) rfl
 have t9:=R0.cell (j:=9) rfl
 have l0:=R0.lt
 clear hv KC
 go_wp2_with fail
 refine (KC2.out _ ex).mono ?_
 rintro _ w2 ⟨_,rfl,hb,rfl⟩
 replace R0:=R0.ext hb
 replace ex:=ext_trans ex hb
 clear hb KC2 d0 t0 t1 t2 t3 t4 t5 t6 t7 t8 t9 l0
 go_wp2
 go_ret
 exact .mk ex (int_eq HR.out.symm)
theorem equal_link (d:Nat) (a b:List Int) (W:World):(Op.equalIn (d+2) 70 (.agg #[.int .i64 (nth a 0),.int .i64 (nth a 1)]) (.agg #[.int .i64 (nth b 0),.int .i64 (nth b 1)])).run Tryz.prog W=.ok (eqN 2 a b) W:=by
 have hF : (Tryz.prog.fieldsOf 70).toList.map (fun f => (f.name, f.type, f.offset)) = [("Execution", 3, 0), ("Proc", 3, 1)] := by kernel_rfl
 rw[run_equalIn_struct W (d+1) 70 _ _ (by kernel_rfl) (by kernel_rfl)]
 obtain ⟨x0,x1,hab⟩:∃x0 x1,(Tryz.prog.fieldsOf 70).toList=[x0,x1]:=by
  have:=congrArg List.length hF
  simp only[List.length_map,List.length_cons,List.length_nil]at this
  match h:(Tryz.prog.fieldsOf 70).toList,this with
  | [x0,x1],_=>exact ⟨x0,x1,rfl⟩
 rw[hab]at hF ⊢
 simp only[List.map_cons,List.map_nil,List.cons.injEq,Prod.mk.injEq,and_true]at hF
 obtain ⟨⟨n0,t0,o0⟩,n1,t1,o1⟩:=hF
 have q0:∀(W:World) (a:List Int),(Go.part 3 #[.int .i64 (nth a 0),.int .i64 (nth a 1)] 0).run Tryz.prog W=.ok (.int .i64 (nth a 0)) W:=fun W a=>part_one W [.int .i64 (nth a 0),.int .i64 (nth a 1)] 0 _ rfl
 have q1:∀(W:World) (a:List Int),(Go.part 3 #[.int .i64 (nth a 0),.int .i64 (nth a 1)] 1).run Tryz.prog W=.ok (.int .i64 (nth a 1)) W:=fun W a=>part_one W [.int .i64 (nth a 0),.int .i64 (nth a 1)] 1 _ rfl
 have he:∀(W:World) (a b:Int),(Op.equalIn (d+1) 3 (.int .i64 a) (.int .i64 b)).run Tryz.prog W=.ok (a==b) W:=fun W a b=>run_equalIn_int W d _ _ _ a b Tryz.underlying3
 simp only[Op.eqFields,n0,t0,o0,q0,n1,t1,o1,q1,Sem.run_ite,Sem.run_bind,he,Result.andThen_ok,Sem.run_pure,ne_eq,String.reduceEq,not_false_eq_true,if_true]
 simp only[eqN,allN,Bool.true_and]
 cases nth a 0==nth b 0<;>cases nth a 1==nth b 1<;>rfl
theorem rsameW_quiet {S S':Nat→Prop} {w:World} {v1 v2:Value} {l:List (List Int)} (h1:Sl (kFlat 2) S w v1 l) (h2:Sl (kFlat 2) S' w v2 l):
  Calls Tryz.prog 23 #[v1,v2] w (QuietP w (.bool true)):=by
 obtain ⟨a1,cap1,rfl,ha1,_,hm1,hf1⟩:=h1.form2
 obtain ⟨a2,cap2,rfl,ha2,_,_,_⟩:=h2.form2
 have H1:=Lib.hid h1
 have H2:=Lib.hid h2
 have hix1:=idx_link ha1
 have hix2:=idx_link ha2
 clear h1 h2 hm1
 have hne:((l.length:Int) !=l.length)=false:=by simp
 go_enter Tryz.func23,Tryz.ntmps23
 go_wp2
 go_loopw [5] (fun i wr=>∃k:Nat,k≤l.length∧i=.int .i64 k∧(∃m,wr=w.drewN m)) (fun i _=>l.length - (intOf i).toNat)
 case atStart=>exact ⟨0,by omega,rfl,⟨0,rfl⟩⟩
 case round=>
  obtain ⟨k,hk,rfl,⟨m,rfl⟩⟩:=hrel
  by_cases hlt:k<l.length
  ·have q1:=hix1 k hlt
   have q2:=hix2 k hlt
   have z1:=H1.out.nums hlt (by decide)
   have z2:=H2.out.nums hlt (by decide)
   have g1:=(H1.out.num hlt).1
   obtain ⟨x,hx⟩:∃x,x=nthL l k:=⟨_,rfl⟩
   rw[←hx]at z1 z2 g1
   have p0:=z1.1
   have r0:=z2.1
   have p1:=z1.2 1 (by decide)
   have r1:=z2.2 1 (by decide)
   have EQ:∀W:World,(Op.equalIn 10000 70 (.agg #[.int .i64 (nth x 0),.int .i64 (nth x 1)]) (.agg #[.int .i64 (nth x 0),.int .i64 (nth x 1)])).run Tryz.prog W=.ok true W:=fun W=>by
    have:=equal_link 9998 x x W
    rw[eqN_eq g1 g1,decide_eq_true rfl]at this;exact this
   clear hix1 hix2 z1 z2 g1 hx
   go_wp2
   go_quiet (fail)
   go_wp2
   go_roundw
   case rel=>exact ⟨k+1,by omega,by go_num,⟨_,rfl⟩⟩
   case measure=>simp[intOf];omega
  ·go_wp2
   go_ret
   exact .of rfl _
theorem equalW_quiet {S S':Nat→Prop} {w:World} {v1 v2:Value} {l:List (List Int)} (h1:Sl (kFlat 2) S w v1 l) (h2:Sl (kFlat 2) S' w v2 l):
  Calls Tryz.prog 32 #[v1,v2] w (QuietP w (.bool true)):=by
 obtain ⟨a1,cap1,rfl,ha1,_,hm1,hf1⟩:=h1.form2
 obtain ⟨a2,cap2,rfl,ha2,_,_,_⟩:=h2.form2
 have H1:=Lib.hid h1
 have H2:=Lib.hid h2
 have hix1:=idx_link ha1
 have hix2:=idx_link ha2
 clear h1 h2 hm1
 have hne:((l.length:Int) !=l.length)=false:=by simp
 go_enter Tryz.func32,Tryz.ntmps32
 go_wp2
 go_loopw [5,13] (fun _ i wr=>∃k:Nat,k≤l.length∧i=.int .i64 k∧(∃m,wr=w.drewN m)) (fun _ i _=>l.length - (intOf i).toNat)
 case atStart=>exact ⟨0,by omega,rfl,⟨0,rfl⟩⟩
 case round=>
  obtain ⟨k,hk,rfl,⟨m,rfl⟩⟩:=hrel
  by_cases hlt:k<l.length
  ·have q1:=hix1 k hlt
   have q2:=hix2 k hlt
   have z1:=H1.out.nums hlt (by decide)
   have z2:=H2.out.nums hlt (by decide)
   have g1:=(H1.out.num hlt).1
   obtain ⟨x,hx⟩:∃x,x=nthL l k:=⟨_,rfl⟩
   rw[←hx]at z1 z2 g1
   have p0:=z1.1
   have r0:=z2.1
   have p1:=z1.2 1 (by decide)
   have r1:=z2.2 1 (by decide)
   have EQ:∀W:World,(Op.equalIn 10000 70 (.agg #[.int .i64 (nth x 0),.int .i64 (nth x 1)]) (.agg #[.int .i64 (nth x 0),.int .i64 (nth x 1)])).run Tryz.prog W=.ok true W:=fun W=>by
    have:=equal_link 9998 x x W
    rw[eqN_eq g1 g1,decide_eq_true rfl]at this;exact this
   clear hix1 hix2 z1 z2 g1 hx
   go_wp2
   go_quiet (fail)
   go_wp2
   go_roundw
   case rel=>exact ⟨k+1,by omega,by go_num,⟨_,rfl⟩⟩
   case measure=>simp[intOf];omega
  ·go_wp2
   go_ret
   exact .of rfl _
end Go.Proofs.YtaijafjfafbcfaaGreat
