/- Part of the proof that the laws answer true for every input. -/
import Derived.Test.YtaijafjfafbcfaaGreatPXa37
set_option linter.unusedSimpArgs false
set_option linter.unnecessarySimpa false
set_option linter.unusedVariables false
set_option maxRecDepth 100000
set_option maxHeartbeats 40000000
namespace Go.Proofs.YtaijafjfafbcfaaGreat
open Go.RowKit
attribute [local go_sem ↓] Go.wp_at_zero Go.wp_at_succ
theorem info_link:(Tryz.prog.info? 70).map (fun i=>(i.zero,i.size,i.bytes))=some (some (.agg #[.int .i64 0,.int .i64 0]),2,16):=by kernel_rfl
def lenV:Value→Nat
 | .slice _ n _=>n
 | _=>0
def elTo (x k:Nat):List Nat:=(List.range k).filter fun p=>x.testBit p
def elI (x:Nat):List Int:=(elTo x 5).map (Nat.cast:Nat→Int)
theorem elTo_succ (x k:Nat):elTo x (k+1)=elTo x k++if x.testBit k=true then [k] else []:=by
 unfold elTo
 rw[List.range_succ,List.filter_append,List.filter_cons]
 cases x.testBit k<;>simp
theorem elTo_len (x k:Nat):(elTo x k).length≤k:=by
 unfold elTo
 exact Nat.le_trans (List.length_filter_le _ _) (by simp)
theorem el_head:∀x:Fin 32,∀p:Fin 5,x.val.testBit p.val=true→(∀q:Fin 5,q.val<p.val→x.val.testBit q.val=false)→nth (elI x.val) 0=(p.val:Int)∧0<(elI x.val).length:=by decide+kernel
theorem low_el {s:SysF} (hN:s.N≤5) {e g:Nat} (h:byN s e g≠0):nth (elI (byN s e g)) 0=(lowP s e g:Int)∧0<(elI (byN s e g)).length:=by
 obtain ⟨h1,h2,h3⟩:=low_spec h
 have hb:byN s e g<32:=Nat.lt_of_lt_of_le (setTo_lt _ _) (Nat.pow_le_pow_right (n:=2) (by decide) hN)
 refine el_head ⟨byN s e g,hb⟩ ⟨lowP s e g,by omega⟩ ?_ fun q hq=>?_
 ·show (byN s e g).testBit (lowP s e g)=true
  rw[byN_bit,h2,decide_eq_true h1];rfl
 ·show (byN s e g).testBit q.val=false
  rw[byN_bit,h3 q.val hq,Bool.and_false]
theorem by_small {s:SysF} (hN:s.N≤5) (e g:Nat):byN s e g<4294967296:=by
 have:=Nat.lt_of_lt_of_le (setTo_lt (fun q=>lkB s q e g) s.N) (Nat.pow_le_pow_right (n:=2) (by decide) hN)
 unfold byN;omega
theorem rlist_calls (w:World) {x:Nat} (hx:x<4294967296):Calls Tryz.prog 66 #[.int .i64 x] w (Post w fun w' r=>Ints (fun b=>w.heap.size≤b) w' r (elI x)):=by
 have KH:Hid (∀W (p:Nat),p≤5→Calls Tryz.prog 83 #[.int .i64 x,.int .i64 p] W fun e w'=>∃r,e=.returned r∧QW W w'∧r=.bool (x.testBit p)):=Lib.hid fun W p hp=>(has_quiet W hx hp).mono fun _ _ h=>h.take
 have HS:Hid (∀k,elTo x (k+1)=elTo x k++if x.testBit k=true then [k] else []):=Lib.hid (elTo_succ x)
 have HWF:Hid (∀y∈elI x,WF y):=Lib.hid fun y hy=>by
  obtain ⟨i,hi,rfl⟩:=List.mem_map.1 hy
  have:=List.mem_range.1 (List.mem_filter.1 hi).1
  exact WF.small (by omega)
 have HE:Hid (elI x=(elTo x 5).map (Nat.cast:Nat→Int)):=Lib.hid rfl
 have HL:=Lib.hid (elTo_len x)
 have hb0:=Below.refl w.heap.size w
 go_enter Tryz.func66,Tryz.ntmps66
 go_wp2
 go_loopw [3,4] (fun o i wr=>∃(k:Nat) (oa:Option Addr) (oc:Nat),k≤5∧i=.int .i64 k∧o=.slice oa (elTo x k).length oc∧Below w.heap.size w wr∧Hid (wr.ownsRow w.heap.size 3 1 (.slice oa (elTo x k).length oc) (elTo x k).length (((elTo x k).map (Nat.cast:Nat→Int)).map (Value.int .i64)))) (fun _ i _=>5 - (intOf i).toNat)
 case atStart=>exact ⟨0,none,0,by omega,rfl,rfl,hb0,Lib.hid (World.ownsRow_nil _ _ _ _)⟩
 case round=>
  clear hb0
  obtain ⟨k,oa,oc,hk,rfl,rfl,hb,HO⟩:=hrel
  by_cases hlt:k<5
  case neg=>
   obtain rfl:k=5:=by omega
   rw[←HE.out]at HO
   have HI:=Lib.hid (Ints.of_own HO.out HWF.out)
   go_wp2
   go_ret
   exact .mk hb HI.out
  have KH2:=Lib.hid (KH.out wr k (by omega))
  have HSk:=Lib.hid (HS.out k)
  have hlk:=HL.out k
  obtain ⟨acc,hacc⟩:∃acc,acc=elTo x k:=⟨_,rfl⟩
  rw[←hacc]at HO HSk hlk ⊢
  obtain ⟨b,hbb⟩:∃b,b=x.testBit k:=⟨_,rfl⟩
  rw[←hbb]at KH2 HSk
  clear hacc hbb
  go_wp2_with fail
  refine KH2.out.mono ?_
  rintro _ w1 ⟨_,rfl,hq,rfl⟩
  have hb1:=ext_trans hb hq.ext
  have HO1:=Lib.hid (owns_ext HO.out hq.ext)
  have hsz:=hb1.size
  clear hq hb HO KH2
  cases b with
  | false=>
   rw[if_neg (by simp),List.append_nil]at HSk
   rw[←HSk.out]at HO1 ⊢
   go_wp2
   go_roundw
   case rel=>exact ⟨k+1,_,_,by omega,by go_num,rfl,hb1,HO1⟩
   case measure=>simp[intOf];omega
  | true=>
   rw[if_pos rfl]at HSk
   go_wp2_with (at_builtin;refine wpList_push rfl (.tmp 12) (.tmp 14) 44 rfl 3 _ 8 Tryz.underlying44 info_int rfl w.heap.size _ _ _ rfl HO1.out (.int .i64 k) rfl rfl (by omega) (by omega) (by omega) ?_;intro g' c' w5 hown5 hbel5 hag5 hat5)
   have HL5:Hid ((elTo x (k+1)).length=acc.length+1):=Lib.hid (by rw[HSk.out];simp)
   have HO5:Hid (w5.ownsRow w.heap.size 3 1 (.slice (some ⟨g',0,none⟩) (elTo x (k+1)).length c') (elTo x (k+1)).length (((elTo x (k+1)).map (Nat.cast:Nat→Int)).map (Value.int .i64))):=Lib.hid (by rw[HL5.out,HSk.out];simpa using hown5)
   have hb5:=hb1.trans hbel5
   clear hown5 hbel5 hag5 hat5 hb1 HO1
   go_wp2
   go_roundw
   case rel=>exact ⟨k+1,some ⟨g',0,none⟩,c',by omega,by go_num,by rw[HL5.out],hb5,HO5⟩
   case measure=>simp[intOf];omega
def FirR (B:Nat) (s:SysF) (f e:Nat) (w':World) (r:Value):Prop:=
 (0≤dstV s f e∧∃u,r=.tuple #[u,.bool true]∧Sl (kFlat 2) (fun b=>B≤b) w' u (wlkL s f e))∨(dstV s f e<0∧r=.tuple #[.slice none 0 0,.bool false])
theorem wlkL_of {s:SysF} {f e d:Nat} (h:dstV s f e=d):wlkL s f e=wlkTo s f e d:=by unfold wlkL;rw[h,if_neg (by omega),Int.toNat_natCast]
theorem sub1_in {x:Int} (h: -100000≤x∧x≤100000):IntKind.i64.wrap (x - 1)=x - 1:=by rw[IntWalk.i64_left,IntWalk.wrap64_in _ (by omega)]
theorem rfirst_w_calls {S:Nat→Prop} {w:World} {v:Value} {s:SysF} {e f:Nat} (h:SysV S w v s) (hg:GoodS s s.N s.K) (hl:s.ex.length≤4096) (he:e<s.ex.length) (hf:f<s.ex.length):
  Calls Tryz.prog 44 #[v,.int .i64 e,.int .i64 f] w (Post w (FirR w.heap.size s f e)):=by
 have KB:Hid (∀e,e<s.ex.length→∀g,g<s.ex.length→∀W,Below w.heap.size w W→Calls Tryz.prog 36 #[v,.int .i64 e,.int .i64 g] W (Post W fun _ r=>r=.int .i64 (byN s e g))):=Lib.hid fun e he g hg' W hW=>rby_calls (h.ext hW) hg he hg'
 have KF:Hid (∀W,Below w.heap.size w W→Calls Tryz.prog 45 #[v,.int .i64 f] W (Post W fun w' r=>Ints (fun b=>W.heap.size≤b) w' r (dstL s f))):=Lib.hid fun W hW=>rfar_calls (h.ext hW) hg hl hf
 have hN5:=hg.pok.n1.2
 have KT:Hid (∀e g W,Calls Tryz.prog 66 #[.int .i64 (byN s e g)] W (Post W fun w' r=>Ints (fun b=>W.heap.size≤b) w' r (elI (byN s e g)))):=Lib.hid fun e g W=>rlist_calls W (by_small hN5 e g)
 have HLO:Hid (∀e g,byN s e g≠0→nth (elI (byN s e g)) 0=(lowP s e g:Int)∧0<(elI (byN s e g)).length):=Lib.hid fun e g=>low_el hN5
 have HDA:Hid (∀x,x<s.ex.length→nth (dstL s f) x=dstV s f x):=Lib.hid fun x hx=>dstL_at s f hx
 have HDL:=Lib.hid (dstL_len s f)
 have htn:s.tn=(s.N:Int):=hg.tn
 obtain ⟨vc,vs,vt,vx,rfl,hc,hs,ht,hx⟩:=h
 obtain ⟨ca,cc,rfl,_⟩:=hc.form
 obtain ⟨sa,sc,rfl,_⟩:=hs.form
 obtain ⟨ta,tc,rfl,_⟩:=ht.form
 obtain ⟨xa,xc,rfl,xad,_⟩:=hx.form2
 rw[htn]at KB KF ⊢
 have ex:=ext_alloc w (.cells #[.int .i64 s.p.n,.int .i64 s.p.ins,.int .i64 s.p.outs,.slice ca s.p.cs.length cc,.int .i64 s.p.an,.slice sa s.p.st.length sc,.int .i64 s.p.rounds,.int .i64 s.N,.slice ta s.tab.length tc,.slice xa s.ex.length xc] 35)
 have R0:=row_new w [.int .i64 s.p.n,.int .i64 s.p.ins,.int .i64 s.p.outs,.slice ca s.p.cs.length cc,.int .i64 s.p.an,.slice sa s.p.st.length sc,.int .i64 s.p.rounds,.int .i64 s.N,.slice ta s.tab.length tc,.slice xa s.ex.length xc] 35
 have HR:Hid (∀w' r,(0≤dstV s f e∧∃u,r=.tuple #[u,.bool true]∧Sl (kFlat 2) (fun b=>w.heap.size≤b) w' u (wlkL s f e))∨(dstV s f e<0∧r=.tuple #[.slice none 0 0,.bool false])→FirR w.heap.size s f e w' r):=Lib.hid fun w' r h=>h
 have HEL:=Lib.hid he
 have hbd:=dst_bound f he
 clear hc hs ht hx xad hg htn
 have t0:=R0.cell (j:=0) rfl
 have t1:=R0.cell (j:=1) rfl
 have t2:=R0.cell (j:=2) rfl
 have t3:=R0.cell (j:=3) rfl
 have t4:=R0.cell (j:=4) rfl
 have t5:=R0.cell (j:=5) rfl
 have t6:=R0.cell (j:=6) rfl
 have t7:=R0.cell (j:=7) rfl
 have t8:=R0.cell (j:=8) rfl
 have t9:=R0.cell (j:=9) rfl
 have l0:=R0.lt
 go_enter Tryz.func44,Tryz.ntmps44
 go_wp2_with fail
 refine (KF.out _ ex).mono ?_
 rintro _ w1 ⟨u0,rfl,hb,hi⟩
 replace R0:=R0.ext hb
 replace ex:=ext_trans ex hb
 clear hb KF t0 t1 t2 t3 t4 t5 t6 t7 t8 t9 l0
 have HS2:=Lib.hid R0.lt
 obtain ⟨fa,fc,rfl,_⟩:=hi.form
 have HFA:=Lib.hid hi
 rw[HDL.out]
 have qe:=hi.idx (k:=e) (by rw[HDL.out];exact he)
 have ce:=hi.cellN (k:=e) (by rw[HDL.out];exact he)
 rw[HDL.out]at qe
 rw[HDA.out e he]at ce
 have be:=World.block_lt_of_cell? _ _ ce
 clear hi
 by_cases hd0:dstV s f e<0
 case pos=>
  have RR:=Lib.hid (HR.out w1 _ (.inr ⟨hd0,rfl⟩))
  have d0:decide (dstV s f e<0)=true:=decide_eq_true hd0
  obtain ⟨dd,hdd⟩:∃dd,dd=dstV s f e:=⟨_,rfl⟩
  rw[←hdd]at ce d0
  clear hd0 hdd hbd
  go_wp2
  go_ret2
  exact .mk ex RR.out
 obtain ⟨d,hd⟩:∃d:Nat,dstV s f e=d:=⟨(dstV s f e).toNat,by omega⟩
 rw[hd]at ce
 have HD:=Lib.hid hd
 have hdn:d<s.ex.length:=by omega
 have d0:decide ((d:Int)<0)=false:=by simp
 have HR2:Hid (∀w' u,Sl (kFlat 2) (fun b=>w.heap.size≤b) w' u (wlkTo s f e d)→FirR w.heap.size s f e w' (.tuple #[u,.bool true])):=Lib.hid fun w' u h=>HR.out _ _ (.inl ⟨by omega,u,rfl,by rw[wlkL_of HD.out];exact h⟩)
 have hs1:=ex.size
 have RL:=row_new w1 [.int .i64 e,.int .i64 (-1)] 70
 have HO0:Hid (OwnK (kFlat 2) 70 w1.heap.size (fun _=>False) (w1.alloc (.cells #[.int .i64 e,.int .i64 (-1)] 70)) (.slice (some ⟨w1.heap.size,0,none⟩) 1 1) (wlkTo s f e 0)):=Lib.hid (own_word (l:=[[(e:Int), -1]]) (RL.ownsW (n:=1) (z:=2) (Nat.le_refl _) rfl (by unfold maxLen;omega)) (fun r hr=>by
  rw[List.mem_singleton.1 hr]
  exact ⟨rfl,fun x hx=>by
   rcases List.mem_cons.1 hx with rfl | hx
   ·exact WF.small (by omega)
   ·rw[List.mem_singleton.1 hx];exact WF.small (by omega)⟩))
 replace R0:=R0.alloc (.cells #[.int .i64 e,.int .i64 (-1)] 70)
 replace ex:=ext_alloc' ex (.cells #[.int .i64 e,.int .i64 (-1)] 70)
 have hx1:=ext_alloc w1 (.cells #[.int .i64 e,.int .i64 (-1)] 70)
 clear hd0 hbd hd RL
 go_wp2
 clear qe ce be d0
 go_loopw [1,9,10] (fun ev ov _ wr=>∃(k x:Nat) (oa:Option Addr) (oc:Nat),k≤d∧ev=.int .i64 x∧Hid (x=xsE s f e k)∧ov=.slice oa (k+1) oc∧Below w.heap.size w wr∧Below w1.heap.size w1 wr∧Row wr w.heap.size 35 [.int .i64 s.p.n,.int .i64 s.p.ins,.int .i64 s.p.outs,.slice ca s.p.cs.length cc,.int .i64 s.p.an,.slice sa s.p.st.length sc,.int .i64 s.p.rounds,.int .i64 s.N,.slice ta s.tab.length tc,.slice xa s.ex.length xc]∧Hid (OwnK (kFlat 2) 70 w1.heap.size (fun _=>False) wr (.slice oa (k+1) oc) (wlkTo s f e k))) (fun _ ov _ _=>d+1 - lenV ov)
 case atStart=>exact ⟨0,e,_,_,Nat.zero_le _,rfl,Lib.hid rfl,rfl,ex,hx1,R0,HO0⟩
 case round=>
  clear ex hx1 R0 HO0
  obtain ⟨k,x,oa,oc,hk,rfl,HX,rfl,ex,hx1,R0,HO⟩:=hrel
  have hxs:=xs_spec HEL.out HD.out k hk
  rw[←HX.out]at hxs
  obtain ⟨hxl,hxd⟩:=hxs
  have HXD:=Lib.hid hxd
  have qx:=HFA.out.idx (k:=x) (by rw[HDL.out];exact hxl)
  have cx:=(HFA.out.ext hx1).cellN (k:=x) (by rw[HDL.out];exact hxl)
  rw[HDL.out]at qx
  rw[HDA.out x hxl,hxd]at cx
  have bx:=World.block_lt_of_cell? _ _ cx
  by_cases hkd:k<d
  case neg=>
   obtain rfl:k=d:=by omega
   have e0:(k:Int) - k=0:=by omega
   rw[e0]at cx
   have HS:=Lib.hid (HR2.out wr _ ((HO.out.sl (by rw[wlkTo_len];omega)).mono fun b hb=>by rcases hb with hb | hb;exact hb.elim;omega))
   clear e0 hxd
   go_wp2
   go_ret2
   exact .mk ex HS.out
  obtain ⟨y0,hy0⟩:∃y0:Int,y0=(d:Int) - k:=⟨_,rfl⟩
  rw[←hy0]at cx HXD
  have d1:decide (0<y0)=true:=decide_eq_true (by omega)
  have hyb: -100000≤y0∧y0≤100000:=by omega
  have HNX:=Lib.hid (nxt_spec (f:=f) hxl (by rw[HXD.out];omega))
  obtain ⟨nx,hnx⟩:∃nx,nx=nxtE s f x:=⟨_,rfl⟩
  rw[←hnx]at HNX
  have HX1:Hid (nx=xsE s f e (k+1)):=Lib.hid (by rw[hnx,HX.out];rfl)
  have KB1:Hid (∀g,g<s.ex.length→∀W,Below w.heap.size w W→Calls Tryz.prog 36 #[.agg #[.int .i64 s.p.n,.int .i64 s.p.ins,.int .i64 s.p.outs,.slice ca s.p.cs.length cc,.int .i64 s.p.an,.slice sa s.p.st.length sc,.int .i64 s.p.rounds,.int .i64 s.N,.slice ta s.tab.length tc,.slice xa s.ex.length xc],.int .i64 x,.int .i64 g] W (Post W fun _ r=>r=.int .i64 (byN s x g))):=Lib.hid (KB.out x hxl)
  have hnl:nx<s.ex.length:=HNX.out.1
  have HR0:=Lib.hid R0
  have HEX:=Lib.hid ex
  have HX1W:=Lib.hid hx1
  have HYW:=Lib.hid (sub1_in hyb)
  obtain ⟨wo,hwo⟩:∃wo:World,wo=wr:=⟨_,rfl⟩
  rw[←hwo]at cx HO HR0 HEX HX1W bx ⊢
  have hb0:=Below.refl wo.heap.size wo
  have HY0:=Lib.hid hy0
  clear hxd hnx ex hx1 R0 hwo hyb hy0
  go_wp2
  clear d1
  go_loopw [10] (fun mv wi=>∃m:Nat,m≤nx∧mv=.int .i64 m∧Below wo.heap.size wo wi) (fun mv _=>nx - (intOf mv).toNat)
  case atStart=>exact ⟨0,Nat.zero_le _,rfl,hb0⟩
  case round=>
   clear hb0
   obtain ⟨m,hm,rfl,hb⟩:=hrel
   have hml:m<s.ex.length:=by omega
   have qm:=HFA.out.idx (k:=m) (by rw[HDL.out];exact hml)
   have cm:=(HFA.out.ext (ext_trans HX1W.out hb)).cellN (k:=m) (by rw[HDL.out];exact hml)
   rw[HDL.out]at qm
   rw[HDA.out m hml]at cm
   obtain ⟨ym,hym⟩:∃ym:Int,ym=dstV s f m:=⟨_,rfl⟩
   rw[←hym]at cm
   have cx2:=cell_ext cx hb
   have R1:=HR0.out.ext hb
   have KEEP:Hid (∀w',Below wr.heap.size wr w'→(fun w':World=>w'.cell? ⟨w.heap.size,0,none⟩=some (.int .i64 s.p.n)∧w'.cell? ⟨w.heap.size,1,none⟩=some (.int .i64 s.p.ins)∧w'.cell? ⟨w.heap.size,2,none⟩=some (.int .i64 s.p.outs)∧w'.cell? ⟨w.heap.size,3,none⟩=some (.slice ca s.p.cs.length cc)∧w'.cell? ⟨w.heap.size,4,none⟩=some (.int .i64 s.p.an)∧w'.cell? ⟨w.heap.size,5,none⟩=some (.slice sa s.p.st.length sc)∧w'.cell? ⟨w.heap.size,6,none⟩=some (.int .i64 s.p.rounds)∧w'.cell? ⟨w.heap.size,7,none⟩=some (.int .i64 s.N)∧w'.cell? ⟨w.heap.size,8,none⟩=some (.slice ta s.tab.length tc)∧w'.cell? ⟨w.heap.size,9,none⟩=some (.slice xa s.ex.length xc)∧w'.cell? (adr fa m)=some (.int .i64 ym)∧w'.cell? (adr fa x)=some (.int .i64 y0)) w'):=Lib.hid fun w' hw=>⟨(R1.ext hw).cell (j:=0) rfl,(R1.ext hw).cell (j:=1) rfl,(R1.ext hw).cell (j:=2) rfl,(R1.ext hw).cell (j:=3) rfl,(R1.ext hw).cell (j:=4) rfl,(R1.ext hw).cell (j:=5) rfl,(R1.ext hw).cell (j:=6) rfl,(R1.ext hw).cell (j:=7) rfl,(R1.ext hw).cell (j:=8) rfl,(R1.ext hw).cell (j:=9) rfl,cell_ext cm hw,cell_ext cx2 hw⟩
   have HYM:=Lib.hid hym
   have hbx:=Lib.hid hb
   clear R1 cm cx2 hym hb
   by_cases hyy:ym=y0 - 1
   case neg=>
    have d2:(ym !=IntKind.i64.wrap (y0 - 1))=true:=by rw[HYW.out];simp[hyy]
    have hmn:m<nx:=by
     rcases Nat.lt_or_ge m nx with h | h
     ·exact h
     ·exfalso
      obtain rfl:m=nx:=by omega
      exact hyy (by rw[HYM.out,HNX.out.2.2.1,HXD.out])
    clear hyy
    go_wp2
    refine region_E (fun w':World=>w'.cell? ⟨w.heap.size,0,none⟩=some (.int .i64 s.p.n)∧w'.cell? ⟨w.heap.size,1,none⟩=some (.int .i64 s.p.ins)∧w'.cell? ⟨w.heap.size,2,none⟩=some (.int .i64 s.p.outs)∧w'.cell? ⟨w.heap.size,3,none⟩=some (.slice ca s.p.cs.length cc)∧w'.cell? ⟨w.heap.size,4,none⟩=some (.int .i64 s.p.an)∧w'.cell? ⟨w.heap.size,5,none⟩=some (.slice sa s.p.st.length sc)∧w'.cell? ⟨w.heap.size,6,none⟩=some (.int .i64 s.p.rounds)∧w'.cell? ⟨w.heap.size,7,none⟩=some (.int .i64 s.N)∧w'.cell? ⟨w.heap.size,8,none⟩=some (.slice ta s.tab.length tc)∧w'.cell? ⟨w.heap.size,9,none⟩=some (.slice xa s.ex.length xc)∧w'.cell? (adr fa m)=some (.int .i64 ym)∧w'.cell? (adr fa x)=some (.int .i64 y0)) (fun i=>false) (by kernel_rfl) ?_ (fun hHeld=>?_)
    ·exact KEEP.out _ (drewN_below wr.heap.size wr 1)
    refine anyE_take 0 (v:=?_) rfl (by kernel_rfl) (fun _ _ _ h=>h) (by rfl) ?hy0a hHeld ?rest0a
    case hy0a=>(intro w hSw;(try dsimp only at hSw);go_simp;try with_reducible rfl)
    try simp only[Act.put,zsa,zsz,zss]
    refine anyE_take 1 (v:=?_) rfl (by kernel_rfl) (fun _ _ _ h=>h) (by rfl) ?hy1a hHeld ?rest1a
    case hy1a=>(intro w hSw;(try dsimp only at hSw);go_simp;try with_reducible rfl)
    try simp only[Act.put,zsa,zsz,zss]
    refine anyE_take 2 (v:=?_) rfl (by kernel_rfl) (fun _ _ _ h=>h) (by rfl) ?hy2a hHeld ?rest2a
    case hy2a=>(intro w hSw;(try dsimp only at hSw);go_simp;try with_reducible rfl)
    try simp only[Act.put,zsa,zsz,zss]
    refine anyE_take 3 (v:=?_) rfl (by kernel_rfl) (fun _ _ _ h=>h) (by rfl) ?hy3a hHeld ?rest3a
    case hy3a=>(intro w hSw;(try dsimp only at hSw);go_simp;try with_reducible rfl)
    try simp only[Act.put,zsa,zsz,zss]
    refine anyE_take 4 (v:=?_) rfl (by kernel_rfl) (fun _ _ _ h=>h) (by rfl) ?hy4a hHeld ?rest4a
    case hy4a=>(intro w hSw;(try dsimp only at hSw);go_simp;try with_reducible rfl)
    try simp only[Act.put,zsa,zsz,zss]
    refine anyE_take 5 (v:=?_) rfl (by kernel_rfl) (fun _ _ _ h=>h) (by rfl) ?hy5a hHeld ?rest5a
    case hy5a=>(intro w hSw;(try dsimp only at hSw);go_simp;try with_reducible rfl)
    try simp only[Act.put,zsa,zsz,zss]
    refine anyE_take 6 (v:=?_) rfl (by kernel_rfl) (fun _ _ _ h=>h) (by rfl) ?hy6a hHeld ?rest6a
    case hy6a=>(intro w hSw;(try dsimp only at hSw);go_simp;try with_reducible rfl)
    try simp only[Act.put,zsa,zsz,zss]
    refine anyE_take 7 (v:=?_) rfl (by kernel_rfl) (fun _ _ _ h=>h) (by rfl) ?hy7a hHeld ?rest7a
    case hy7a=>(intro w hSw;(try dsimp only at hSw);go_simp;try with_reducible rfl)
    try simp only[Act.put,zsa,zsz,zss]
    refine anyE_take 8 (v:=?_) rfl (by kernel_rfl) (fun _ _ _ h=>h) (by rfl) ?hy8a hHeld ?rest8a
    case hy8a=>(intro w hSw;(try dsimp only at hSw);go_simp;try with_reducible rfl)
    try simp only[Act.put,zsa,zsz,zss]
    refine anyE_take 9 (v:=?_) rfl (by kernel_rfl) (fun _ _ _ h=>h) (by rfl) ?hy9a hHeld ?rest9a
    case hy9a=>(intro w hSw;(try dsimp only at hSw);go_simp;try with_reducible rfl)
    try simp only[Act.put,zsa,zsz,zss]
    refine anyE_take 10 (v:=?_) rfl (by kernel_rfl) (fun _ _ _ h=>h) (by rfl) ?hy10a hHeld ?rest10a
    case hy10a=>(intro w hSw;(try dsimp only at hSw);go_simp;try with_reducible rfl)
    try simp only[Act.put,zsa,zsz,zss]
    refine anyE_skip 11 rfl (by kernel_rfl) (fun _ _ _ h=>h) (by rfl) hHeld ?_
    try simp only[Act.put,zsa,zsz,zss]
    refine anyE_skip 12 rfl (by kernel_rfl) (fun _ _ _ h=>h) (by rfl) hHeld ?_
    try simp only[Act.put,zsa,zsz,zss]
    refine anyE_skip 13 rfl (by kernel_rfl) (fun _ _ _ h=>h) (by rfl) hHeld ?_
    try simp only[Act.put,zsa,zsz,zss]
    refine anyE_skip 14 rfl (by kernel_rfl) (fun _ _ _ h=>h) (by rfl) hHeld ?_
    try simp only[Act.put,zsa,zsz,zss]
    refine anyE_skip 15 rfl (by kernel_rfl) (fun _ _ _ h=>h) (by rfl) hHeld ?_
    try simp only[Act.put,zsa,zsz,zss]
    refine anyE_take 16 (v:=?_) rfl (by kernel_rfl) (fun _ _ _ h=>h) (by rfl) ?hy16a hHeld ?rest16a
    case hy16a=>(intro w hSw;(try dsimp only at hSw);go_simp;try with_reducible rfl)
    try simp only[Act.put,zsa,zsz,zss]
    refine anyE_done (by kernel_rfl) ?_ _
    have hb2:=ext_trans hbx.out (drewN_below wr.heap.size wr 1)
    clear hHeld KEEP d2
    go_wp2
    go_roundw
    case rel=>exact ⟨m+1,by omega,by go_num,hb2⟩
    case measure=>simp[intOf];omega
   have d2:(ym !=IntKind.i64.wrap (y0 - 1))=false:=by rw[HYW.out];simp[hyy]
   have hadj:byN s x m≠0→adjB s x m=true:=fun h=>adjB_iff.2 ⟨h,fun e1=>by
    have h1:=HYM.out
    rw[←e1,HXD.out]at h1;omega⟩
   have HAD:=Lib.hid hadj
   have KB2:Hid (∀W,Below wr.heap.size wr W→Calls Tryz.prog 36 #[.agg #[.int .i64 s.p.n,.int .i64 s.p.ins,.int .i64 s.p.outs,.slice ca s.p.cs.length cc,.int .i64 s.p.an,.slice sa s.p.st.length sc,.int .i64 s.p.rounds,.int .i64 s.N,.slice ta s.tab.length tc,.slice xa s.ex.length xc],.int .i64 x,.int .i64 m] W (Post W fun _ r=>r=.int .i64 (byN s x m))):=Lib.hid fun W hW=>KB1.out m hml W (ext_trans HEX.out (ext_trans hbx.out hW))
   have KT2:Hid (∀W,Calls Tryz.prog 66 #[.int .i64 (byN s x m)] W (Post W fun w' r=>Ints (fun b=>W.heap.size≤b) w' r (elI (byN s x m)))):=Lib.hid (KT.out x m)
   have HLO2:=Lib.hid (HLO.out x m)
   obtain ⟨bb,hbb⟩:∃bb,bb=byN s x m:=⟨_,rfl⟩
   rw[←hbb]at KB2 HAD KT2 HLO2
   have HYY:=Lib.hid hyy
   have HBB:=Lib.hid hbb
   clear hadj hbb hyy
   by_cases hb0:bb=0
   case pos=>
    have d3:((bb:Int)==0)=true:=by simp[hb0]
    have hmn:m<nx:=by
     rcases Nat.lt_or_ge m nx with h | h
     ·exact h
     ·exfalso
      obtain rfl:m=nx:=by omega
      have:=(adjB_iff.1 HNX.out.2.1).1
      exact this (by rw[←HBB.out];exact hb0)
    clear hb0
    go_wp2
    refine region_E (fun w':World=>w'.cell? ⟨w.heap.size,0,none⟩=some (.int .i64 s.p.n)∧w'.cell? ⟨w.heap.size,1,none⟩=some (.int .i64 s.p.ins)∧w'.cell? ⟨w.heap.size,2,none⟩=some (.int .i64 s.p.outs)∧w'.cell? ⟨w.heap.size,3,none⟩=some (.slice ca s.p.cs.length cc)∧w'.cell? ⟨w.heap.size,4,none⟩=some (.int .i64 s.p.an)∧w'.cell? ⟨w.heap.size,5,none⟩=some (.slice sa s.p.st.length sc)∧w'.cell? ⟨w.heap.size,6,none⟩=some (.int .i64 s.p.rounds)∧w'.cell? ⟨w.heap.size,7,none⟩=some (.int .i64 s.N)∧w'.cell? ⟨w.heap.size,8,none⟩=some (.slice ta s.tab.length tc)∧w'.cell? ⟨w.heap.size,9,none⟩=some (.slice xa s.ex.length xc)∧w'.cell? (adr fa m)=some (.int .i64 ym)∧w'.cell? (adr fa x)=some (.int .i64 y0)) (fun i=>false) (by kernel_rfl) ?_ (fun hHeld=>?_)
    ·exact KEEP.out _ (drewN_below wr.heap.size wr 1)
    refine anyE_take 0 (v:=?_) rfl (by kernel_rfl) (fun _ _ _ h=>h) (by rfl) ?hy0b hHeld ?rest0b
    case hy0b=>(intro w hSw;(try dsimp only at hSw);go_simp;try with_reducible rfl)
    try simp only[Act.put,zsa,zsz,zss]
    refine anyE_take 1 (v:=?_) rfl (by kernel_rfl) (fun _ _ _ h=>h) (by rfl) ?hy1b hHeld ?rest1b
    case hy1b=>(intro w hSw;(try dsimp only at hSw);go_simp;try with_reducible rfl)
    try simp only[Act.put,zsa,zsz,zss]
    refine anyE_take 2 (v:=?_) rfl (by kernel_rfl) (fun _ _ _ h=>h) (by rfl) ?hy2b hHeld ?rest2b
    case hy2b=>(intro w hSw;(try dsimp only at hSw);go_simp;try with_reducible rfl)
    try simp only[Act.put,zsa,zsz,zss]
    refine anyE_take 3 (v:=?_) rfl (by kernel_rfl) (fun _ _ _ h=>h) (by rfl) ?hy3b hHeld ?rest3b
    case hy3b=>(intro w hSw;(try dsimp only at hSw);go_simp;try with_reducible rfl)
    try simp only[Act.put,zsa,zsz,zss]
    refine anyE_take 4 (v:=?_) rfl (by kernel_rfl) (fun _ _ _ h=>h) (by rfl) ?hy4b hHeld ?rest4b
    case hy4b=>(intro w hSw;(try dsimp only at hSw);go_simp;try with_reducible rfl)
    try simp only[Act.put,zsa,zsz,zss]
    refine anyE_take 5 (v:=?_) rfl (by kernel_rfl) (fun _ _ _ h=>h) (by rfl) ?hy5b hHeld ?rest5b
    case hy5b=>(intro w hSw;(try dsimp only at hSw);go_simp;try with_reducible rfl)
    try simp only[Act.put,zsa,zsz,zss]
    refine anyE_take 6 (v:=?_) rfl (by kernel_rfl) (fun _ _ _ h=>h) (by rfl) ?hy6b hHeld ?rest6b
    case hy6b=>(intro w hSw;(try dsimp only at hSw);go_simp;try with_reducible rfl)
    try simp only[Act.put,zsa,zsz,zss]
    refine anyE_take 7 (v:=?_) rfl (by kernel_rfl) (fun _ _ _ h=>h) (by rfl) ?hy7b hHeld ?rest7b
    case hy7b=>(intro w hSw;(try dsimp only at hSw);go_simp;try with_reducible rfl)
    try simp only[Act.put,zsa,zsz,zss]
    refine anyE_take 8 (v:=?_) rfl (by kernel_rfl) (fun _ _ _ h=>h) (by rfl) ?hy8b hHeld ?rest8b
    case hy8b=>(intro w hSw;(try dsimp only at hSw);go_simp;try with_reducible rfl)
    try simp only[Act.put,zsa,zsz,zss]
    refine anyE_take 9 (v:=?_) rfl (by kernel_rfl) (fun _ _ _ h=>h) (by rfl) ?hy9b hHeld ?rest9b
    case hy9b=>(intro w hSw;(try dsimp only at hSw);go_simp;try with_reducible rfl)
    try simp only[Act.put,zsa,zsz,zss]
    refine anyE_take 10 (v:=?_) rfl (by kernel_rfl) (fun _ _ _ h=>h) (by rfl) ?hy10b hHeld ?rest10b
    case hy10b=>(intro w hSw;(try dsimp only at hSw);go_simp;try with_reducible rfl)
    try simp only[Act.put,zsa,zsz,zss]
    refine anyE_take 11 (v:=?_) rfl (by kernel_rfl) (fun _ _ _ h=>h) (by rfl) ?hy11b hHeld ?rest11b
    case hy11b=>(intro w hSw;(try dsimp only at hSw);go_simp;try with_reducible rfl)
    try simp only[Act.put,zsa,zsz,zss]
    refine anyE_take 12 (v:=?_) rfl (by kernel_rfl) (fun _ _ _ h=>h) (by rfl) ?hy12b hHeld ?rest12b
    case hy12b=>(intro w hSw;(try dsimp only at hSw);go_simp;try with_reducible rfl)
    try simp only[Act.put,zsa,zsz,zss]
    refine anyE_take 13 (v:=?_) rfl (by kernel_rfl) (fun _ _ _ h=>h) (by rfl) ?hy13b hHeld ?rest13b
    case hy13b=>(intro w hSw;(try dsimp only at hSw);go_simp;try with_reducible rfl)
    try simp only[Act.put,zsa,zsz,zss]
    refine anyE_one 14 rfl (by kernel_rfl) (fun K hK=>?_)
    (go_simp;go_at_call 36;refine (KB2.out _ (drewN_below wr.heap.size wr 1)).mono ?_;rintro _ v1 ⟨_,rfl,hb,rfl⟩;have y1:=ext_trans (drewN_below wr.heap.size wr 1) hb;clear hb)
    refine hK.out _ _ (fun _=>KEEP.out _ y1) (fun hHeld=>?_);replace hHeld:=hHeld rfl
    clear hK K
    try simp only[Act.put,zsa,zsz,zss]
    refine anyE_take 15 (v:=?_) rfl (by kernel_rfl) (fun _ _ _ h=>h) (by rfl) ?hy15b hHeld ?rest15b
    case hy15b=>(intro w hSw;(try dsimp only at hSw);go_simp;try with_reducible rfl)
    try simp only[Act.put,zsa,zsz,zss]
    refine anyE_take 16 (v:=?_) rfl (by kernel_rfl) (fun _ _ _ h=>h) (by rfl) ?hy16b hHeld ?rest16b
    case hy16b=>(intro w hSw;(try dsimp only at hSw);go_simp;try with_reducible rfl)
    try simp only[Act.put,zsa,zsz,zss]
    refine anyE_done (by kernel_rfl) ?_ _
    have hb2:=ext_trans hbx.out y1
    clear hHeld KEEP d2 d3 y1
    go_wp2
    go_roundw
    case rel=>exact ⟨m+1,by omega,by go_num,hb2⟩
    case measure=>simp[intOf];omega
   have d3:((bb:Int)==0)=false:=by simp[hb0]
   have hmn:m=nx:=by
    rcases Nat.lt_or_ge m nx with h | h
    ·exact absurd ⟨HAD.out hb0,by rw[←HYM.out,HYY.out,HXD.out]⟩ (HNX.out.2.2.2 m h)
    ·omega
   subst hmn
   obtain ⟨hlo,hlp⟩:=HLO2.out hb0
   clear hb0
   go_wp2
   refine region_E (fun w':World=>w'.cell? ⟨w.heap.size,0,none⟩=some (.int .i64 s.p.n)∧w'.cell? ⟨w.heap.size,1,none⟩=some (.int .i64 s.p.ins)∧w'.cell? ⟨w.heap.size,2,none⟩=some (.int .i64 s.p.outs)∧w'.cell? ⟨w.heap.size,3,none⟩=some (.slice ca s.p.cs.length cc)∧w'.cell? ⟨w.heap.size,4,none⟩=some (.int .i64 s.p.an)∧w'.cell? ⟨w.heap.size,5,none⟩=some (.slice sa s.p.st.length sc)∧w'.cell? ⟨w.heap.size,6,none⟩=some (.int .i64 s.p.rounds)∧w'.cell? ⟨w.heap.size,7,none⟩=some (.int .i64 s.N)∧w'.cell? ⟨w.heap.size,8,none⟩=some (.slice ta s.tab.length tc)∧w'.cell? ⟨w.heap.size,9,none⟩=some (.slice xa s.ex.length xc)∧w'.cell? (adr fa m)=some (.int .i64 ym)∧w'.cell? (adr fa x)=some (.int .i64 y0)) (fun i=>false) (by kernel_rfl) ?_ (fun hHeld=>?_)
   ·exact KEEP.out _ (drewN_below wr.heap.size wr 1)
   refine anyE_take 0 (v:=?_) rfl (by kernel_rfl) (fun _ _ _ h=>h) (by rfl) ?hy0c hHeld ?rest0c
   case hy0c=>(intro w hSw;(try dsimp only at hSw);go_simp;try with_reducible rfl)
   try simp only[Act.put,zsa,zsz,zss]
   refine anyE_take 1 (v:=?_) rfl (by kernel_rfl) (fun _ _ _ h=>h) (by rfl) ?hy1c hHeld ?rest1c
   case hy1c=>(intro w hSw;(try dsimp only at hSw);go_simp;try with_reducible rfl)
   try simp only[Act.put,zsa,zsz,zss]
   refine anyE_take 2 (v:=?_) rfl (by kernel_rfl) (fun _ _ _ h=>h) (by rfl) ?hy2c hHeld ?rest2c
   case hy2c=>(intro w hSw;(try dsimp only at hSw);go_simp;try with_reducible rfl)
   try simp only[Act.put,zsa,zsz,zss]
   refine anyE_take 3 (v:=?_) rfl (by kernel_rfl) (fun _ _ _ h=>h) (by rfl) ?hy3c hHeld ?rest3c
   case hy3c=>(intro w hSw;(try dsimp only at hSw);go_simp;try with_reducible rfl)
   try simp only[Act.put,zsa,zsz,zss]
   refine anyE_take 4 (v:=?_) rfl (by kernel_rfl) (fun _ _ _ h=>h) (by rfl) ?hy4c hHeld ?rest4c
   case hy4c=>(intro w hSw;(try dsimp only at hSw);go_simp;try with_reducible rfl)
   try simp only[Act.put,zsa,zsz,zss]
   refine anyE_take 5 (v:=?_) rfl (by kernel_rfl) (fun _ _ _ h=>h) (by rfl) ?hy5c hHeld ?rest5c
   case hy5c=>(intro w hSw;(try dsimp only at hSw);go_simp;try with_reducible rfl)
   try simp only[Act.put,zsa,zsz,zss]
   refine anyE_take 6 (v:=?_) rfl (by kernel_rfl) (fun _ _ _ h=>h) (by rfl) ?hy6c hHeld ?rest6c
   case hy6c=>(intro w hSw;(try dsimp only at hSw);go_simp;try with_reducible rfl)
   try simp only[Act.put,zsa,zsz,zss]
   refine anyE_take 7 (v:=?_) rfl (by kernel_rfl) (fun _ _ _ h=>h) (by rfl) ?hy7c hHeld ?rest7c
   case hy7c=>(intro w hSw;(try dsimp only at hSw);go_simp;try with_reducible rfl)
   try simp only[Act.put,zsa,zsz,zss]
   refine anyE_take 8 (v:=?_) rfl (by kernel_rfl) (fun _ _ _ h=>h) (by rfl) ?hy8c hHeld ?rest8c
   case hy8c=>(intro w hSw;(try dsimp only at hSw);go_simp;try with_reducible rfl)
   try simp only[Act.put,zsa,zsz,zss]
   refine anyE_take 9 (v:=?_) rfl (by kernel_rfl) (fun _ _ _ h=>h) (by rfl) ?hy9c hHeld ?rest9c
   case hy9c=>(intro w hSw;(try dsimp only at hSw);go_simp;try with_reducible rfl)
   try simp only[Act.put,zsa,zsz,zss]
   refine anyE_take 10 (v:=?_) rfl (by kernel_rfl) (fun _ _ _ h=>h) (by rfl) ?hy10c hHeld ?rest10c
   case hy10c=>(intro w hSw;(try dsimp only at hSw);go_simp;try with_reducible rfl)
   try simp only[Act.put,zsa,zsz,zss]
   refine anyE_take 11 (v:=?_) rfl (by kernel_rfl) (fun _ _ _ h=>h) (by rfl) ?hy11c hHeld ?rest11c
   case hy11c=>(intro w hSw;(try dsimp only at hSw);go_simp;try with_reducible rfl)
   try simp only[Act.put,zsa,zsz,zss]
   refine anyE_take 12 (v:=?_) rfl (by kernel_rfl) (fun _ _ _ h=>h) (by rfl) ?hy12c hHeld ?rest12c
   case hy12c=>(intro w hSw;(try dsimp only at hSw);go_simp;try with_reducible rfl)
   try simp only[Act.put,zsa,zsz,zss]
   refine anyE_take 13 (v:=?_) rfl (by kernel_rfl) (fun _ _ _ h=>h) (by rfl) ?hy13c hHeld ?rest13c
   case hy13c=>(intro w hSw;(try dsimp only at hSw);go_simp;try with_reducible rfl)
   try simp only[Act.put,zsa,zsz,zss]
   refine anyE_one 14 rfl (by kernel_rfl) (fun K hK=>?_)
   (go_simp;go_at_call 36;refine (KB2.out _ (drewN_below wr.heap.size wr 1)).mono ?_;rintro _ v1 ⟨_,rfl,hb,rfl⟩;have y1:=ext_trans (drewN_below wr.heap.size wr 1) hb;clear hb)
   refine hK.out _ _ (fun _=>KEEP.out _ y1) (fun hHeld=>?_);replace hHeld:=hHeld rfl
   clear hK K
   try simp only[Act.put,zsa,zsz,zss]
   refine anyE_take 15 (v:=?_) rfl (by kernel_rfl) (fun _ _ _ h=>h) (by rfl) ?hy15c hHeld ?rest15c
   case hy15c=>(intro w hSw;(try dsimp only at hSw);go_simp;try with_reducible rfl)
   try simp only[Act.put,zsa,zsz,zss]
   refine anyE_take 16 (v:=?_) rfl (by kernel_rfl) (fun _ _ _ h=>h) (by rfl) ?hy16c hHeld ?rest16c
   case hy16c=>(intro w hSw;(try dsimp only at hSw);go_simp;try with_reducible rfl)
   try simp only[Act.put,zsa,zsz,zss]
   refine anyE_done (by kernel_rfl) ?_ _
   have hb2:=ext_trans hbx.out y1
   have R0:=HR0.out.ext hb2
   have HY1:=Lib.hid y1
   have hlop:=Lib.hid (And.intro hlo hlp)
   clear hHeld KEEP d2 d3 y1 hlo hlp
   have t0:=R0.cell (j:=0) rfl
   have t1:=R0.cell (j:=1) rfl
   have t2:=R0.cell (j:=2) rfl
   have t3:=R0.cell (j:=3) rfl
   have t4:=R0.cell (j:=4) rfl
   have t5:=R0.cell (j:=5) rfl
   have t6:=R0.cell (j:=6) rfl
   have t7:=R0.cell (j:=7) rfl
   have t8:=R0.cell (j:=8) rfl
   have t9:=R0.cell (j:=9) rfl
   have l0:=R0.lt
   go_wp2_with fail
   refine (KB2.out _ HY1.out).mono ?_
   rintro _ v2 ⟨_,rfl,hb,rfl⟩
   replace R0:=R0.ext hb
   replace hb2:=ext_trans hb2 hb
   clear KB2 t0 t1 t2 t3 t4 t5 t6 t7 t8 t9 l0 hb
   go_wp2_with fail
   refine (KT2.out v2).mono ?_
   rintro _ v3 ⟨lv,rfl,hb,hi⟩
   replace R0:=R0.ext hb
   replace hb2:=ext_trans hb2 hb
   obtain ⟨la,lc,rfl,_⟩:=hi.form
   have ql:∀W:World,(Instr.indexAt 44 (.slice la (elI bb).length lc) (.int .i64 0)).run Tryz.prog W=.ok (.pointer (some (adr la 0))) W:=hi.idx (k:=0) hlop.out.2
   have cl:=hi.cellN (k:=0) hlop.out.2
   obtain ⟨yl,hyl⟩:∃yl,yl=nth (elI bb) 0:=⟨_,rfl⟩
   rw[←hyl]at cl
   have bl:=World.block_lt_of_cell? _ _ cl
   obtain ⟨ll,hll⟩:∃ll,ll=(elI bb).length:=⟨_,rfl⟩
   rw[←hll]at ql ⊢
   have HYL:Hid (yl=(lowP s x m:Int)):=Lib.hid (by rw[hyl];exact hlop.out.1)
   have HP:Hid (wlkTo s f e (k+1)=wlkTo s f e k++[[(m:Int),yl]]):=Lib.hid (by
    rw[wlkTo_succ]
    rw[show wlkR s f e (k+1)=[(xsE s f e (k+1):Int),(lowP s (xsE s f e k) (xsE s f e (k+1)):Int)] from rfl,←HX1.out,←HX.out,HYL.out])
   have HLW:=Lib.hid (wlkTo_len s f e k)
   have HO3:=Lib.hid (HO.out.ext hb2)
   have hlow:lowP s x m<s.N:=(low_spec (adjB_iff.1 HNX.out.2.1).1).1
   have HRD:Hid ((kFlat 2).rd (fun b=>False∧(Value.slice oa (k+1) oc).ownBlock≠some b) v3 [.int .i64 m,.int .i64 yl] [(m:Int),yl]):=Lib.hid ⟨rfl,rfl,fun z hz=>by
    rcases List.mem_cons.1 hz with rfl | hz
    ·exact WF.small (by omega)
    ·rw[List.mem_singleton.1 hz,HYL.out];exact WF.small (by omega)⟩
   obtain ⟨acc,hacc⟩:∃acc,acc=wlkTo s f e k:=⟨_,rfl⟩
   rw[←hacc]at HP HLW HO3
   have HBY:Hid ((acc.length+1) * 16≤140737488355328):=Lib.hid (by rw[HLW.out];omega)
   have HBN:Hid (acc.length<9223372036854775807):=Lib.hid (by rw[HLW.out];omega)
   have exv:=ext_trans HEX.out hb2
   have hxv:=ext_trans HX1W.out hb2
   have HBS:=Lib.hid hxv.size
   have HR3:=Lib.hid R0
   have HSZ:=Lib.hid hs1
   have HEV:=Lib.hid exv
   have HXV:=Lib.hid hxv
   clear hyl hll hi hb hb2 KT2 HLO2 hacc HO R0 exv hxv hs1
   go_wp2_with (at_builtin;refine wpList_pushK (K:=kFlat 2) (w:=v3) (S:=fun _=>False) (base:=w1.heap.size) (v:=.slice oa (k+1) oc) (l:=acc) rfl (.tmp 46) (.tmp 56) 53 rfl 70 _ 16 Tryz.underlying53 info_link rfl (by decide) rfl HO3.out (cs:=[.int .i64 m,.int .i64 yl]) rfl HRD.out HBY.out HBN.out HBS.out ?_;intro g7 c7 w7 ho hb7 hag hg7;rw[HLW.out]at ho ⊢)
   have HO7:Hid (OwnK (kFlat 2) 70 w1.heap.size (fun _=>False) w7 (.slice (some ⟨g7,0,none⟩) (k+1+1) c7) (wlkTo s f e (k+1))):=Lib.hid (by rw[HP.out];exact ho)
   have R7:=row_under HR3.out HS2.out hb7
   have ex7:=HEV.out.trans (hb7.mono HSZ.out)
   have hx7:=HXV.out.trans hb7
   clear ho hag hg7 hb7 HR3 HO3 HRD cl bl ql
   go_wp2
   go_roundw
   case rel=>exact ⟨k+1,m,_,_,by omega,rfl,HX1,rfl,ex7,hx7,R7,HO7⟩
   case measure=>simp[lenV];omega
end Go.Proofs.YtaijafjfafbcfaaGreat
