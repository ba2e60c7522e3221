/- Part of the proof that the laws answer true for every input. -/
import Derived.Test.YtaijafjfafbcfaaGreatPXa39
set_option linter.unusedSimpArgs false
set_option linter.unnecessarySimpa false
set_option linter.unusedVariables false
set_option maxRecDepth 100000
set_option maxHeartbeats 40000000
namespace Go.Proofs.YtaijafjfafbcfaaGreat
open Go.RowKit
attribute [local go_sem ↓] Go.wp_at_zero Go.wp_at_succ
def lnkA (s:SysF) (e f:Int):Int:=if thE s e f=0 then (byN s e.toNat f.toNat:Int) else 0
def LnkR (s:SysF) (e f:Int) (r:Value):Prop:=r=.tuple #[.int .i64 (lnkA s e f),.int .i64 (thE s e f)]
def clE (s:SysF) (q:Int):Int:=if verE s=0 then (if q<0∨(s.N:Int)≤q then 2 else 0) else verE s
def ClsR (B:Nat) (s:SysF) (q:Int) (w':World) (r:Value):Prop:=
 (clE s q=0∧∃u,r=.tuple #[u,.int .i64 0]∧Ints (fun b=>B≤b) w' u (clsL s q.toNat))∨(clE s q≠0∧r=.tuple #[.slice none 0 0,.int .i64 (clE s q)])
def CmpR (B:Nat) (s:SysF) (w':World) (r:Value):Prop:=
 (verE s=0∧∃u,r=.tuple #[u,.int .i64 0]∧Ints (fun b=>B≤b) w' u (cmpL s (s.N - 1)))∨(verE s≠0∧r=.tuple #[.slice none 0 0,.int .i64 (verE s)])
def WlkR (B:Nat) (s:SysF) (e f:Int) (w':World) (r:Value):Prop:=
 (thE s e f=0∧∃u,r=.tuple #[u,.bool (decide (0≤dstV s f.toNat e.toNat)),.int .i64 0]∧Sl (kFlat 2) (fun b=>B≤b) w' u (wlkL s f.toNat e.toNat))∨(thE s e f≠0∧r=.tuple #[.slice none 0 0,.bool false,.int .i64 (thE s e f)])
def dstA (s:SysF) (e f:Int):Int:=if thE s e f=0∧0≤dstV s f.toNat e.toNat then dstV s f.toNat e.toNat else 0
def dstB (s:SysF) (e f:Int):Bool:=decide (thE s e f=0∧0≤dstV s f.toNat e.toNat)
def DstR (s:SysF) (e f:Int) (r:Value):Prop:=r=.tuple #[.int .i64 (dstA s e f),.bool (dstB s e f),.int .i64 (thE s e f)]
theorem lnk_ok {s:SysF} {x y:Nat} (h:thE s x y=0):LnkR s x y (.tuple #[.int .i64 (byN s x y),.int .i64 0]):=by
 unfold LnkR lnkA;rw[if_pos h,h,Int.toNat_natCast,Int.toNat_natCast]
theorem lnk_err {s:SysF} {e f:Int} (h:thE s e f≠0):LnkR s e f (.tuple #[.int .i64 0,.int .i64 (thE s e f)]):=by
 unfold LnkR lnkA;rw[if_neg h]
theorem cls_ok {B:Nat} {s:SysF} {x:Nat} {w':World} {u:Value} (h:clE s x=0) (hu:Ints (fun b=>B≤b) w' u (clsL s x)):ClsR B s x w' (.tuple #[u,.int .i64 0]):=.inl ⟨h,u,rfl,by rw[Int.toNat_natCast];exact hu⟩
theorem wlk_ok {B:Nat} {s:SysF} {x y:Nat} {w':World} {u:Value} (h:thE s x y=0) (hd:0≤dstV s y x) (hu:Sl (kFlat 2) (fun b=>B≤b) w' u (wlkL s y x)):WlkR B s x y w' (.tuple #[u,.bool true,.int .i64 0]):=
 .inl ⟨h,u,by rw[Int.toNat_natCast,Int.toNat_natCast,decide_eq_true hd],by rw[Int.toNat_natCast,Int.toNat_natCast];exact hu⟩
theorem wlk_no {B:Nat} {s:SysF} {x y:Nat} {w':World} (h:thE s x y=0) (hd:dstV s y x<0):WlkR B s x y w' (.tuple #[.slice none 0 0,.bool false,.int .i64 0]):=
 .inl ⟨h,_,by rw[Int.toNat_natCast,Int.toNat_natCast,decide_eq_false (by omega)],by
  rw[Int.toNat_natCast,Int.toNat_natCast,show wlkL s y x=[] by unfold wlkL;rw[if_pos hd]];exact Sl.nil _ _ _⟩
theorem dst_ok {s:SysF} {x y:Nat} (h:thE s x y=0) (hd:0≤dstV s y x):DstR s x y (.tuple #[.int .i64 (dstV s y x),.bool true,.int .i64 0]):=by
 unfold DstR dstA dstB
 rw[Int.toNat_natCast,Int.toNat_natCast,if_pos ⟨h,hd⟩,decide_eq_true ⟨h,hd⟩,h]
theorem dst_no {s:SysF} {x y:Nat} (h:thE s x y=0) (hd:dstV s y x<0):DstR s x y (.tuple #[.int .i64 0,.bool false,.int .i64 0]):=by
 unfold DstR dstA dstB
 rw[Int.toNat_natCast,Int.toNat_natCast,if_neg (by omega),decide_eq_false (by omega),h]
theorem dst_err {s:SysF} {e f:Int} (h:thE s e f≠0):DstR s e f (.tuple #[.int .i64 0,.bool false,.int .i64 (thE s e f)]):=by
 unfold DstR dstA dstB
 rw[if_neg (fun h2=>h h2.1),decide_eq_false (fun h2=>h h2.1)]
theorem rLinked_calls {S:Nat→Prop} {w:World} {v:Value} {s:SysF} (e f:Int) (h:SysV S w v s) (hf:SmallP s.p):
  Calls Tryz.prog 13 #[v,.int .i64 e,.int .i64 f] w (Post w fun _ r=>LnkR s e f r):=by
 have KT:Hid (∀W,Below w.heap.size w W→Calls Tryz.prog 35 #[v,.int .i64 e,.int .i64 f] W (Post W fun _ r=>r=.int .i64 (thE s e f))):=Lib.hid fun W hW=>rthere_calls e f (h.ext hW) hf
 have KB:Hid (thE s e f=0→∃x y:Nat,e=x∧f=y∧LnkR s e f (.tuple #[.int .i64 (byN s x y),.int .i64 0])∧∀W,Below w.heap.size w W→Calls Tryz.prog 36 #[v,.int .i64 e,.int .i64 f] W (Post W fun _ r=>r=.int .i64 (byN s x y))):=Lib.hid fun h0=>by
  obtain ⟨h1,x,y,rfl,rfl,hx,hy⟩:=thE_ok h0
  exact ⟨x,y,rfl,rfl,lnk_ok h0,fun W hW=>rby_calls (h.ext hW) (good_sys h1 h.moves8) hx hy⟩
 have HE:Hid (thE s e f≠0→LnkR s e f (.tuple #[.int .i64 0,.int .i64 (thE s e f)])):=Lib.hid lnk_err
 obtain ⟨t,htt⟩:∃t,t=thE s e f:=⟨_,rfl⟩
 rw[←htt]at KT KB HE
 obtain ⟨LR,hLR⟩:∃LR,LR=LnkR s e f:=⟨_,rfl⟩
 rw[←hLR]at KB HE ⊢
 clear htt hLR
 obtain ⟨vc,vs,vt,vx,rfl,hc,hs,ht,hx⟩:=h
 obtain ⟨ca,cc,rfl,_⟩:=hc.form
 obtain ⟨sa,sc,rfl,_⟩:=hs.form
 obtain ⟨ta,tc,rfl,_⟩:=ht.form
 obtain ⟨xa,xc,rfl,xad,_⟩:=hx.form2
 have ex:=ext_alloc w (.cells #[.int .i64 s.p.n,.int .i64 s.p.ins,.int .i64 s.p.outs,.slice ca s.p.cs.length cc,.int .i64 s.p.an,.slice sa s.p.st.length sc,.int .i64 s.p.rounds,.int .i64 s.tn,.slice ta s.tab.length tc,.slice xa s.ex.length xc] 35)
 have R0:=row_new w [.int .i64 s.p.n,.int .i64 s.p.ins,.int .i64 s.p.outs,.slice ca s.p.cs.length cc,.int .i64 s.p.an,.slice sa s.p.st.length sc,.int .i64 s.p.rounds,.int .i64 s.tn,.slice ta s.tab.length tc,.slice xa s.ex.length xc] 35
 have t0:=R0.cell (j:=0) rfl
 have t1:=R0.cell (j:=1) rfl
 have t2:=R0.cell (j:=2) rfl
 have t3:=R0.cell (j:=3) rfl
 have t4:=R0.cell (j:=4) rfl
 have t5:=R0.cell (j:=5) rfl
 have t6:=R0.cell (j:=6) rfl
 have t7:=R0.cell (j:=7) rfl
 have t8:=R0.cell (j:=8) rfl
 have t9:=R0.cell (j:=9) rfl
 have l0:=R0.lt
 clear hc hs ht hx xad hf
 go_enter Tryz.func13,Tryz.ntmps13
 go_wp2_with fail
 refine (KT.out _ ex).mono ?_
 rintro _ w1 ⟨_,rfl,hb,rfl⟩
 replace R0:=R0.ext hb
 replace ex:=ext_trans ex hb
 clear hb KT t0 t1 t2 t3 t4 t5 t6 t7 t8 t9 l0
 by_cases ht:t=0
 case neg=>
  have d0:(t !=0)=true:=by simp[ht]
  have RR:=Lib.hid (HE.out ht)
  clear ht
  go_wp2
  go_ret2
  exact .mk ex RR.out
 have d0:(t !=0)=false:=by simp[ht]
 obtain ⟨x,y,hex,hfy,HL,KB2⟩:=KB.out ht
 have HL:=Lib.hid HL
 have KB2:=Lib.hid KB2
 have t0:=R0.cell (j:=0) rfl
 have t1:=R0.cell (j:=1) rfl
 have t2:=R0.cell (j:=2) rfl
 have t3:=R0.cell (j:=3) rfl
 have t4:=R0.cell (j:=4) rfl
 have t5:=R0.cell (j:=5) rfl
 have t6:=R0.cell (j:=6) rfl
 have t7:=R0.cell (j:=7) rfl
 have t8:=R0.cell (j:=8) rfl
 have t9:=R0.cell (j:=9) rfl
 have l0:=R0.lt
 clear ht KB hex hfy
 go_wp2_with fail
 refine (KB2.out _ ex).mono ?_
 rintro _ w2 ⟨_,rfl,hb,rfl⟩
 replace R0:=R0.ext hb
 replace ex:=ext_trans ex hb
 clear hb KB2 d0 t0 t1 t2 t3 t4 t5 t6 t7 t8 t9 l0
 go_wp2
 go_ret2
 exact .mk ex HL.out
theorem rClasses_calls {S:Nat→Prop} {w:World} {v:Value} {s:SysF} (q:Int) (h:SysV S w v s) (hf:SmallP s.p):
  Calls Tryz.prog 15 #[v,.int .i64 q] w (Post w (ClsR w.heap.size s q)):=by
 have KV:Hid (∀W,Below w.heap.size w W→Calls Tryz.prog 39 #[v] W (Post W fun _ r=>r=.int .i64 (verE s))):=Lib.hid fun W hW=>rverify_calls (h.ext hW) hf
 have KC:Hid (verE s=0→s.tn=(s.N:Int)∧∀x:Nat,q=x→x<s.N→∀W,Below w.heap.size w W→Calls Tryz.prog 40 #[v,.int .i64 q] W (Post W fun w' r=>Ints (fun b=>W.heap.size≤b) w' r (clsL s x))):=Lib.hid fun h0=>⟨(good_sys h0 h.moves8).tn,fun x hx hl W hW=>by
  rw[hx]
  exact rclass_calls (h.ext hW) (good_sys h0 h.moves8) (ex_le h0 (good_sys h0 h.moves8)) hl⟩
 have HCE:Hid (clE s q=if verE s=0 then (if q<0∨(s.N:Int)≤q then 2 else 0) else verE s):=Lib.hid rfl
 have HE:Hid (∀w',clE s q≠0→ClsR w.heap.size s q w' (.tuple #[.slice none 0 0,.int .i64 (clE s q)])):=Lib.hid fun w' h=>.inr ⟨h,rfl⟩
 have HK:Hid (clE s q=0→∀(x:Nat) w' u,q=x→Ints (fun b=>w.heap.size≤b) w' u (clsL s x)→ClsR w.heap.size s q w' (.tuple #[u,.int .i64 0])):=Lib.hid fun h0 x w' u hx hu=>by
  subst hx;exact cls_ok h0 hu
 obtain ⟨ce,hce⟩:∃t,t=clE s q:=⟨_,rfl⟩
 rw[←hce]at HCE HE HK
 obtain ⟨t,htt⟩:∃t,t=verE s:=⟨_,rfl⟩
 rw[←htt]at KV KC HCE
 obtain ⟨LR,hLR⟩:∃LR,LR=ClsR w.heap.size s q:=⟨_,rfl⟩
 rw[←hLR]at HE HK ⊢
 clear htt hLR hce
 obtain ⟨vc,vs,vt,vx,rfl,hc,hs,ht,hx⟩:=h
 obtain ⟨ca,cc,rfl,_⟩:=hc.form
 obtain ⟨sa,sc,rfl,_⟩:=hs.form
 obtain ⟨ta,tc,rfl,_⟩:=ht.form
 obtain ⟨xa,xc,rfl,xad,_⟩:=hx.form2
 have ex:=ext_alloc w (.cells #[.int .i64 s.p.n,.int .i64 s.p.ins,.int .i64 s.p.outs,.slice ca s.p.cs.length cc,.int .i64 s.p.an,.slice sa s.p.st.length sc,.int .i64 s.p.rounds,.int .i64 s.tn,.slice ta s.tab.length tc,.slice xa s.ex.length xc] 35)
 have R0:=row_new w [.int .i64 s.p.n,.int .i64 s.p.ins,.int .i64 s.p.outs,.slice ca s.p.cs.length cc,.int .i64 s.p.an,.slice sa s.p.st.length sc,.int .i64 s.p.rounds,.int .i64 s.tn,.slice ta s.tab.length tc,.slice xa s.ex.length xc] 35
 have t0:=R0.cell (j:=0) rfl
 have t1:=R0.cell (j:=1) rfl
 have t2:=R0.cell (j:=2) rfl
 have t3:=R0.cell (j:=3) rfl
 have t4:=R0.cell (j:=4) rfl
 have t5:=R0.cell (j:=5) rfl
 have t6:=R0.cell (j:=6) rfl
 have t7:=R0.cell (j:=7) rfl
 have t8:=R0.cell (j:=8) rfl
 have t9:=R0.cell (j:=9) rfl
 have l0:=R0.lt
 clear hc hs ht hx xad hf
 go_enter Tryz.func15,Tryz.ntmps15
 go_wp2_with fail
 refine (KV.out _ ex).mono ?_
 rintro _ w1 ⟨_,rfl,hb,rfl⟩
 replace R0:=R0.ext hb
 replace ex:=ext_trans ex hb
 clear hb KV t0 t1 t2 t3 t4 t5 t6 t7 t8 t9 l0
 by_cases ht:t=0
 case neg=>
  have d0:(t !=0)=true:=by simp[ht]
  have RR:=Lib.hid (by have h2:=HCE.out.trans (if_neg ht);have:=HE.out w1 (by rw[h2];exact ht);rw[h2]at this;exact this)
  clear ht
  go_wp2
  go_ret2
  exact .mk ex RR.out
 have d0:(t !=0)=false:=by simp[ht]
 have HCE2:=Lib.hid (HCE.out.trans (if_pos ht))
 obtain ⟨htn,KC2⟩:=KC.out ht
 have KC2:=Lib.hid KC2
 have t7:=R0.cell (j:=7) rfl
 rw[htn]at t7
 have HTN:=Lib.hid htn
 have l0:=R0.lt
 clear ht KC htn HCE
 by_cases h1:q<0
 ·have d1:decide (q<0)=true:=decide_eq_true h1
  have h2:=HCE2.out.trans (if_pos (.inl h1))
  have RR:=Lib.hid (HE.out w1 (by rw[h2];decide))
  rw[h2]at RR
  clear h1 h2
  go_wp2
  go_ret2
  exact .mk ex RR.out
 have d1:decide (q<0)=false:=decide_eq_false h1
 by_cases h3:(s.N:Int)≤q
 ·have d2:decide ((s.N:Int)≤q)=true:=decide_eq_true h3
  have h2:=HCE2.out.trans (if_pos (.inr h3))
  have RR:=Lib.hid (HE.out w1 (by rw[h2];decide))
  rw[h2]at RR
  clear h1 h2
  go_wp2
  go_ret2
  exact .mk ex RR.out
 have d2:decide ((s.N:Int)≤q)=false:=decide_eq_false h3
 have h2:=HCE2.out.trans (if_neg (fun h=>by rcases h with h | h;exact h1 h;exact h3 h))
 have HX:=Lib.hid (show∃x:Nat,q=x∧x<s.N from ⟨q.toNat,by omega,by omega⟩)
 have HK2:=Lib.hid (HK.out h2)
 obtain ⟨x,hqx,hxl⟩:=HX.out
 have KC3:=Lib.hid (KC2.out x hqx hxl)
 have HQX:=Lib.hid hqx
 clear hqx hxl HX h2
 go_upto_region 6 with fail
 clear h1 h3 t7 l0 d0 d1 d2 KC2
 have t0:=R0.cell (j:=0) rfl
 have t1:=R0.cell (j:=1) rfl
 have t2:=R0.cell (j:=2) rfl
 have t3:=R0.cell (j:=3) rfl
 have t4:=R0.cell (j:=4) rfl
 have t5:=R0.cell (j:=5) rfl
 have t6:=R0.cell (j:=6) rfl
 have t7:=R0.cell (j:=7) rfl
 have t8:=R0.cell (j:=8) rfl
 have t9:=R0.cell (j:=9) rfl
 have l0:=R0.lt
 go_wp2_with fail
 refine (KC3.out _ ex).mono ?_
 rintro _ w2 ⟨u,rfl,hb,hi⟩
 have ex2:=ext_trans ex hb
 have hsz:=ex.size
 have RR:=Lib.hid (HK2.out x w2 u HQX.out (hi.mono fun b hb=>by omega))
 clear hb hi ex hsz KC3 t0 t1 t2 t3 t4 t5 t6 t7 t8 t9 l0
 go_wp2
 go_ret2
 exact .mk ex2 RR.out
theorem rComps_calls {S:Nat→Prop} {w:World} {v:Value} {s:SysF} (h:SysV S w v s) (hf:SmallP s.p):
  Calls Tryz.prog 18 #[v] w (Post w (CmpR w.heap.size s)):=by
 have KV:Hid (∀W,Below w.heap.size w W→Calls Tryz.prog 39 #[v] W (Post W fun _ r=>r=.int .i64 (verE s))):=Lib.hid fun W hW=>rverify_calls (h.ext hW) hf
 have KC:Hid (verE s=0→∀W,Below w.heap.size w W→Calls Tryz.prog 41 #[v] W (Post W fun w' r=>Ints (fun b=>W.heap.size≤b) w' r (cmpL s (s.N - 1)))):=Lib.hid fun h0 W hW=>rparts_calls (h.ext hW) (good_sys h0 h.moves8) (ex_le h0 (good_sys h0 h.moves8))
 have HE:Hid (∀w',verE s≠0→CmpR w.heap.size s w' (.tuple #[.slice none 0 0,.int .i64 (verE s)])):=Lib.hid fun w' h=>.inr ⟨h,rfl⟩
 have HK:Hid (verE s=0→∀w' u,Ints (fun b=>w.heap.size≤b) w' u (cmpL s (s.N - 1))→CmpR w.heap.size s w' (.tuple #[u,.int .i64 0])):=Lib.hid fun h0 w' u hu=>.inl ⟨h0,u,rfl,hu⟩
 obtain ⟨t,htt⟩:∃t,t=verE s:=⟨_,rfl⟩
 rw[←htt]at KV KC HE HK
 obtain ⟨LR,hLR⟩:∃LR,LR=CmpR w.heap.size s:=⟨_,rfl⟩
 rw[←hLR]at HE HK ⊢
 clear htt hLR
 obtain ⟨vc,vs,vt,vx,rfl,hc,hs,ht,hx⟩:=h
 obtain ⟨ca,cc,rfl,_⟩:=hc.form
 obtain ⟨sa,sc,rfl,_⟩:=hs.form
 obtain ⟨ta,tc,rfl,_⟩:=ht.form
 obtain ⟨xa,xc,rfl,xad,_⟩:=hx.form2
 have ex:=ext_alloc w (.cells #[.int .i64 s.p.n,.int .i64 s.p.ins,.int .i64 s.p.outs,.slice ca s.p.cs.length cc,.int .i64 s.p.an,.slice sa s.p.st.length sc,.int .i64 s.p.rounds,.int .i64 s.tn,.slice ta s.tab.length tc,.slice xa s.ex.length xc] 35)
 have R0:=row_new w [.int .i64 s.p.n,.int .i64 s.p.ins,.int .i64 s.p.outs,.slice ca s.p.cs.length cc,.int .i64 s.p.an,.slice sa s.p.st.length sc,.int .i64 s.p.rounds,.int .i64 s.tn,.slice ta s.tab.length tc,.slice xa s.ex.length xc] 35
 have t0:=R0.cell (j:=0) rfl
 have t1:=R0.cell (j:=1) rfl
 have t2:=R0.cell (j:=2) rfl
 have t3:=R0.cell (j:=3) rfl
 have t4:=R0.cell (j:=4) rfl
 have t5:=R0.cell (j:=5) rfl
 have t6:=R0.cell (j:=6) rfl
 have t7:=R0.cell (j:=7) rfl
 have t8:=R0.cell (j:=8) rfl
 have t9:=R0.cell (j:=9) rfl
 have l0:=R0.lt
 clear hc hs ht hx xad hf
 go_enter Tryz.func18,Tryz.ntmps18
 go_wp2_with fail
 refine (KV.out _ ex).mono ?_
 rintro _ w1 ⟨_,rfl,hb,rfl⟩
 replace R0:=R0.ext hb
 replace ex:=ext_trans ex hb
 clear hb KV t0 t1 t2 t3 t4 t5 t6 t7 t8 t9 l0
 by_cases ht:t=0
 case neg=>
  have d0:(t !=0)=true:=by simp[ht]
  have RR:=Lib.hid (HE.out w1 ht)
  clear ht
  go_wp2
  go_ret2
  exact .mk ex RR.out
 have d0:(t !=0)=false:=by simp[ht]
 have HK2:=Lib.hid (HK.out ht)
 have KC2:=Lib.hid (KC.out ht)
 have t0:=R0.cell (j:=0) rfl
 have t1:=R0.cell (j:=1) rfl
 have t2:=R0.cell (j:=2) rfl
 have t3:=R0.cell (j:=3) rfl
 have t4:=R0.cell (j:=4) rfl
 have t5:=R0.cell (j:=5) rfl
 have t6:=R0.cell (j:=6) rfl
 have t7:=R0.cell (j:=7) rfl
 have t8:=R0.cell (j:=8) rfl
 have t9:=R0.cell (j:=9) rfl
 have l0:=R0.lt
 clear ht KC
 go_wp2_with fail
 refine (KC2.out _ ex).mono ?_
 rintro _ w2 ⟨u,rfl,hb,hi⟩
 have ex2:=ext_trans ex hb
 have hsz:=ex.size
 have RR:=Lib.hid (HK2.out w2 u (hi.mono fun b hb=>by omega))
 clear hb hi ex hsz KC2 d0 t0 t1 t2 t3 t4 t5 t6 t7 t8 t9 l0
 go_wp2
 go_ret2
 exact .mk ex2 RR.out
theorem rWalk_calls {S:Nat→Prop} {w:World} {v:Value} {s:SysF} (e f:Int) (h:SysV S w v s) (hf:SmallP s.p):
  Calls Tryz.prog 20 #[v,.int .i64 e,.int .i64 f] w (Post w (WlkR w.heap.size s e f)):=by
 have KT:Hid (∀W,Below w.heap.size w W→Calls Tryz.prog 35 #[v,.int .i64 e,.int .i64 f] W (Post W fun _ r=>r=.int .i64 (thE s e f))):=Lib.hid fun W hW=>rthere_calls e f (h.ext hW) hf
 have KB:Hid (thE s e f=0→∃x y:Nat,(∀w' u,0≤dstV s y x→Sl (kFlat 2) (fun b=>w.heap.size≤b) w' u (wlkL s y x)→WlkR w.heap.size s e f w' (.tuple #[u,.bool true,.int .i64 0]))∧(∀w',dstV s y x<0→WlkR w.heap.size s e f w' (.tuple #[.slice none 0 0,.bool false,.int .i64 0]))∧∀W,Below w.heap.size w W→Calls Tryz.prog 44 #[v,.int .i64 e,.int .i64 f] W (Post W (FirR W.heap.size s y x))):=Lib.hid fun h0=>by
  obtain ⟨h1,x,y,rfl,rfl,hx,hy⟩:=thE_ok h0
  exact ⟨x,y,fun w' u hd hu=>wlk_ok h0 hd hu,fun w' hd=>wlk_no h0 hd,fun W hW=>rfirst_w_calls (h.ext hW) (good_sys h1 h.moves8) (ex_le h1 (good_sys h1 h.moves8)) hx hy⟩
 have HE:Hid (∀w',thE s e f≠0→WlkR w.heap.size s e f w' (.tuple #[.slice none 0 0,.bool false,.int .i64 (thE s e f)])):=Lib.hid fun w' h=>.inr ⟨h,rfl⟩
 obtain ⟨t,htt⟩:∃t,t=thE s e f:=⟨_,rfl⟩
 rw[←htt]at KT KB HE
 obtain ⟨LR,hLR⟩:∃LR,LR=WlkR w.heap.size s e f:=⟨_,rfl⟩
 rw[←hLR]at KB HE ⊢
 clear htt hLR
 obtain ⟨vc,vs,vt,vx,rfl,hc,hs,ht,hx⟩:=h
 obtain ⟨ca,cc,rfl,_⟩:=hc.form
 obtain ⟨sa,sc,rfl,_⟩:=hs.form
 obtain ⟨ta,tc,rfl,_⟩:=ht.form
 obtain ⟨xa,xc,rfl,xad,_⟩:=hx.form2
 have ex:=ext_alloc w (.cells #[.int .i64 s.p.n,.int .i64 s.p.ins,.int .i64 s.p.outs,.slice ca s.p.cs.length cc,.int .i64 s.p.an,.slice sa s.p.st.length sc,.int .i64 s.p.rounds,.int .i64 s.tn,.slice ta s.tab.length tc,.slice xa s.ex.length xc] 35)
 have R0:=row_new w [.int .i64 s.p.n,.int .i64 s.p.ins,.int .i64 s.p.outs,.slice ca s.p.cs.length cc,.int .i64 s.p.an,.slice sa s.p.st.length sc,.int .i64 s.p.rounds,.int .i64 s.tn,.slice ta s.tab.length tc,.slice xa s.ex.length xc] 35
 have t0:=R0.cell (j:=0) rfl
 have t1:=R0.cell (j:=1) rfl
 have t2:=R0.cell (j:=2) rfl
 have t3:=R0.cell (j:=3) rfl
 have t4:=R0.cell (j:=4) rfl
 have t5:=R0.cell (j:=5) rfl
 have t6:=R0.cell (j:=6) rfl
 have t7:=R0.cell (j:=7) rfl
 have t8:=R0.cell (j:=8) rfl
 have t9:=R0.cell (j:=9) rfl
 have l0:=R0.lt
 clear hc hs ht hx xad hf
 go_enter Tryz.func20,Tryz.ntmps20
 go_wp2_with fail
 refine (KT.out _ ex).mono ?_
 rintro _ w1 ⟨_,rfl,hb,rfl⟩
 replace R0:=R0.ext hb
 replace ex:=ext_trans ex hb
 clear hb KT t0 t1 t2 t3 t4 t5 t6 t7 t8 t9 l0
 by_cases ht:t=0
 case neg=>
  have d0:(t !=0)=true:=by simp[ht]
  have RR:=Lib.hid (HE.out w1 ht)
  clear ht
  go_wp2
  go_ret3
  exact .mk ex RR.out
 have d0:(t !=0)=false:=by simp[ht]
 obtain ⟨x,y,H1,H2,KB2⟩:=KB.out ht
 have H1:=Lib.hid H1
 have H2:=Lib.hid H2
 have KB2:=Lib.hid KB2
 have t0:=R0.cell (j:=0) rfl
 have t1:=R0.cell (j:=1) rfl
 have t2:=R0.cell (j:=2) rfl
 have t3:=R0.cell (j:=3) rfl
 have t4:=R0.cell (j:=4) rfl
 have t5:=R0.cell (j:=5) rfl
 have t6:=R0.cell (j:=6) rfl
 have t7:=R0.cell (j:=7) rfl
 have t8:=R0.cell (j:=8) rfl
 have t9:=R0.cell (j:=9) rfl
 have l0:=R0.lt
 clear ht KB
 go_wp2_with fail
 refine (KB2.out _ ex).mono ?_
 rintro _ w2 ⟨r,rfl,hb,hR⟩
 have ex2:=ext_trans ex hb
 have hsz:=ex.size
 rcases hR with ⟨hd,u,rfl,hu⟩ | ⟨hd,rfl⟩
 ·have RR:=Lib.hid (H1.out w2 u hd (hu.mono fun b hb=>by omega))
  clear hb hu ex hsz KB2 d0 t0 t1 t2 t3 t4 t5 t6 t7 t8 t9 l0
  go_wp2
  go_ret3
  exact .mk ex2 RR.out
 ·have RR:=Lib.hid (H2.out w2 hd)
  clear hb ex hsz KB2 d0 t0 t1 t2 t3 t4 t5 t6 t7 t8 t9 l0
  go_wp2
  go_ret3
  exact .mk ex2 RR.out
theorem rDist_calls {S:Nat→Prop} {w:World} {v:Value} {s:SysF} (e f:Int) (h:SysV S w v s) (hf:SmallP s.p):
  Calls Tryz.prog 22 #[v,.int .i64 e,.int .i64 f] w (Post w fun _ r=>DstR s e f r):=by
 have KT:Hid (∀W,Below w.heap.size w W→Calls Tryz.prog 35 #[v,.int .i64 e,.int .i64 f] W (Post W fun _ r=>r=.int .i64 (thE s e f))):=Lib.hid fun W hW=>rthere_calls e f (h.ext hW) hf
 have KB:Hid (thE s e f=0→∃x y:Nat,e=x∧x<s.ex.length∧(dstL s y).length=s.ex.length∧nth (dstL s y) x=dstV s y x∧(0≤dstV s y x→DstR s e f (.tuple #[.int .i64 (dstV s y x),.bool true,.int .i64 0]))∧(dstV s y x<0→DstR s e f (.tuple #[.int .i64 0,.bool false,.int .i64 0]))∧∀W,Below w.heap.size w W→Calls Tryz.prog 45 #[v,.int .i64 f] W (Post W fun w' r=>Ints (fun b=>W.heap.size≤b) w' r (dstL s y))):=Lib.hid fun h0=>by
  obtain ⟨h1,x,y,rfl,rfl,hx,hy⟩:=thE_ok h0
  exact ⟨x,y,rfl,hx,dstL_len _ _,dstL_at _ _ hx,dst_ok h0,dst_no h0,fun W hW=>rfar_calls (h.ext hW) (good_sys h1 h.moves8) (ex_le h1 (good_sys h1 h.moves8)) hy⟩
 have HE:Hid (thE s e f≠0→DstR s e f (.tuple #[.int .i64 0,.bool false,.int .i64 (thE s e f)])):=Lib.hid dst_err
 obtain ⟨t,htt⟩:∃t,t=thE s e f:=⟨_,rfl⟩
 rw[←htt]at KT KB HE
 obtain ⟨LR,hLR⟩:∃LR,LR=DstR s e f:=⟨_,rfl⟩
 rw[←hLR]at KB HE ⊢
 clear htt hLR
 obtain ⟨vc,vs,vt,vx,rfl,hc,hs,ht,hx⟩:=h
 obtain ⟨ca,cc,rfl,_⟩:=hc.form
 obtain ⟨sa,sc,rfl,_⟩:=hs.form
 obtain ⟨ta,tc,rfl,_⟩:=ht.form
 obtain ⟨xa,xc,rfl,xad,_⟩:=hx.form2
 have ex:=ext_alloc w (.cells #[.int .i64 s.p.n,.int .i64 s.p.ins,.int .i64 s.p.outs,.slice ca s.p.cs.length cc,.int .i64 s.p.an,.slice sa s.p.st.length sc,.int .i64 s.p.rounds,.int .i64 s.tn,.slice ta s.tab.length tc,.slice xa s.ex.length xc] 35)
 have R0:=row_new w [.int .i64 s.p.n,.int .i64 s.p.ins,.int .i64 s.p.outs,.slice ca s.p.cs.length cc,.int .i64 s.p.an,.slice sa s.p.st.length sc,.int .i64 s.p.rounds,.int .i64 s.tn,.slice ta s.tab.length tc,.slice xa s.ex.length xc] 35
 have t0:=R0.cell (j:=0) rfl
 have t1:=R0.cell (j:=1) rfl
 have t2:=R0.cell (j:=2) rfl
 have t3:=R0.cell (j:=3) rfl
 have t4:=R0.cell (j:=4) rfl
 have t5:=R0.cell (j:=5) rfl
 have t6:=R0.cell (j:=6) rfl
 have t7:=R0.cell (j:=7) rfl
 have t8:=R0.cell (j:=8) rfl
 have t9:=R0.cell (j:=9) rfl
 have l0:=R0.lt
 clear hc hs ht hx xad hf
 go_enter Tryz.func22,Tryz.ntmps22
 go_wp2_with fail
 refine (KT.out _ ex).mono ?_
 rintro _ w1 ⟨_,rfl,hb,rfl⟩
 replace R0:=R0.ext hb
 replace ex:=ext_trans ex hb
 clear hb KT t0 t1 t2 t3 t4 t5 t6 t7 t8 t9 l0
 by_cases ht:t=0
 case neg=>
  have d0:(t !=0)=true:=by simp[ht]
  have RR:=Lib.hid (HE.out ht)
  clear ht
  go_wp2
  go_ret3
  exact .mk ex RR.out
 have d0:(t !=0)=false:=by simp[ht]
 obtain ⟨x,y,hex,hxl,hdl,hda,H1,H2,KB2⟩:=KB.out ht
 have H1:=Lib.hid H1
 have H2:=Lib.hid H2
 have KB2:=Lib.hid KB2
 have HDL:=Lib.hid hdl
 have HDA:=Lib.hid hda
 have HXL:=Lib.hid hxl
 have HEX:=Lib.hid hex
 have t0:=R0.cell (j:=0) rfl
 have t1:=R0.cell (j:=1) rfl
 have t2:=R0.cell (j:=2) rfl
 have t3:=R0.cell (j:=3) rfl
 have t4:=R0.cell (j:=4) rfl
 have t5:=R0.cell (j:=5) rfl
 have t6:=R0.cell (j:=6) rfl
 have t7:=R0.cell (j:=7) rfl
 have t8:=R0.cell (j:=8) rfl
 have t9:=R0.cell (j:=9) rfl
 have l0:=R0.lt
 clear ht KB hex hxl hdl hda
 go_wp2_with fail
 refine (KB2.out _ ex).mono ?_
 rintro _ w2 ⟨fv,rfl,hb,hi⟩
 have ex2:=ext_trans ex hb
 obtain ⟨fa,fc,rfl,_⟩:=hi.form
 have qe:∀W:World,(Instr.indexAt 44 (.slice fa (dstL s y).length fc) (.int .i64 e)).run Tryz.prog W=.ok (.pointer (some (adr fa x))) W:=by rw[HEX.out];exact hi.idx (k:=x) (by rw[HDL.out];exact HXL.out)
 have ce:=hi.cellN (k:=x) (by rw[HDL.out];exact HXL.out)
 rw[HDA.out]at ce
 have be:=World.block_lt_of_cell? _ _ ce
 obtain ⟨ll,hll⟩:∃ll,ll=(dstL s y).length:=⟨_,rfl⟩
 rw[←hll]at qe ⊢
 obtain ⟨dd,hdd⟩:∃dd,dd=dstV s y x:=⟨_,rfl⟩
 rw[←hdd]at ce H1 H2
 clear hll hdd hb hi ex KB2 d0 t0 t1 t2 t3 t4 t5 t6 t7 t8 t9 l0
 by_cases hd:0≤dd
 ·have RR:=Lib.hid (H1.out hd)
  by_cases hd0:0<dd
  ·have d1:decide (0<dd)=true:=decide_eq_true hd0
   have d2:decide (0≤dd)=true:=decide_eq_true hd
   clear hd
   go_wp2
   go_ret3
   exact .mk ex2 RR.out
  ·obtain rfl:dd=0:=by omega
   clear hd hd0
   go_wp2
   go_ret3
   exact .mk ex2 RR.out
 ·have RR:=Lib.hid (H2.out (by omega))
  have d1:decide (0<dd)=false:=decide_eq_false (by omega)
  have d2:decide (0≤dd)=false:=decide_eq_false hd
  have hd1:¬0<dd:=by omega
  go_wp2
  go_ret3
  exact .mk ex2 RR.out
end Go.Proofs.YtaijafjfafbcfaaGreat
