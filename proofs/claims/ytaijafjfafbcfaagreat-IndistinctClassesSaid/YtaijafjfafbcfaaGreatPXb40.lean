/- Part of the proof that the laws answer true for every input. -/
import Derived.Test.YtaijafjfafbcfaaGreatPXb39
set_option linter.unusedSimpArgs false
set_option linter.unnecessarySimpa false
set_option linter.unusedVariables false
set_option maxRecDepth 100000
set_option maxHeartbeats 40000000
namespace Go.Proofs.YtaijafjfafbcfaaGreat
open Go.RowKit
attribute [local go_sem ↓] Go.wp_at_zero Go.wp_at_succ
theorem wrap_pow {k:Nat} (h:k≤5):wrap64 ((2:Int) ^ k)=((2 ^ k:Nat):Int):=by
 have:k=0∨k=1∨k=2∨k=3∨k=4∨k=5:=by omega
 rcases this with rfl | rfl | rfl | rfl | rfl | rfl<;>decide+kernel
theorem or_pow {z k:Nat} (hz:z<2 ^ k) (h:k≤5):bits .or .i64 (z:Int) (wrap64 ((2:Int) ^ k))=((z|||2 ^ k:Nat):Int):=by
 have:=Nat.pow_le_pow_right (n:=2) (by decide) h
 rw[wrap_pow h]
 exact or_nat (by omega) (by omega)
structure FinT (T:Nat→Prop) (w:World) (g:Nat) (la:Option Addr) (lc:Nat) (s:SysF):Prop where
 own:T g
 row:Row w g 90 [.int .i64 s.N,.slice la s.ex.length lc]
 lists:Lists T w (.slice la s.ex.length lc) (fvT s)
theorem FinP.t {B:Nat} {w:World} {g:Nat} {la:Option Addr} {lc:Nat} {s:SysF} (h:FinP B w g la lc s):FinT (fun b=>b<w.heap.size) w g la lc s:=⟨h.row.lt,h.row,h.lists.block.mono fun _ hb=>hb.2⟩
theorem FinT.agree {T:Nat→Prop} {w w':World} {g:Nat} {la:Option Addr} {lc:Nat} {s:SysF} (h:FinT T w g la lc s) (hw:Agree T w w'):FinT T w' g la lc s:=⟨h.own,h.row.agree hw h.own,h.lists.agree hw⟩
theorem FinT.ext {T:Nat→Prop} {w w':World} {g:Nat} {la:Option Addr} {lc:Nat} {s:SysF} (h:FinT T w g la lc s) (hw:Below w.heap.size w w'):FinT T w' g la lc s:=⟨h.own,h.row.ext hw,h.lists.ext hw⟩
theorem FinT.mono {T T':Nat→Prop} {w:World} {g:Nat} {la:Option Addr} {lc:Nat} {s:SysF} (h:FinT T w g la lc s) (hT:∀b,T b→T' b):FinT T' w g la lc s:=⟨hT _ h.own,h.row,h.lists.mono hT⟩
theorem FinT.x1 {T:Nat→Prop} {w:World} {g:Nat} {la:Option Addr} {lc:Nat} {s:SysF} (h:FinT T w g la lc s):w.cell? ⟨g,1,none⟩=some (.slice la s.ex.length lc):=h.row.cell (j:=1) rfl
theorem FinT.x0 {T:Nat→Prop} {w:World} {g:Nat} {la:Option Addr} {lc:Nat} {s:SysF} (h:FinT T w g la lc s):w.cell? ⟨g,0,none⟩=some (.int .i64 s.N):=h.row.cell (j:=0) rfl
theorem FinT.at {T:Nat→Prop} {w:World} {g:Nat} {la:Option Addr} {lc:Nat} {s:SysF} (h:FinT T w g la lc s) {e:Nat} (he:e<s.ex.length):
  (∀W:World,(Instr.indexAt 79 (.slice la s.ex.length lc) (.int .i64 e)).run Tryz.prog W=.ok (.pointer (some (adr la e))) W)∧∃fa fc,w.cell? (adr la e)=some (.slice fa s.N fc)∧Ints T w (.slice fa s.N fc) (fvL s e):=by
 have hl:e<(fvT s).length:=by rw[fvT_len];exact he
 have h3:=h.lists
 rw[←fvT_len]at h3
 refine ⟨idx_lists h.lists hl,?_⟩
 obtain ⟨u,cu,iu⟩:=h3.at (.refl _ _) hl
 rw[fvT_at s he]at iu
 obtain ⟨fa,fc,rfl,_⟩:=iu.form
 rw[fvL_len]at cu iu
 exact ⟨fa,fc,cu,iu⟩
theorem FinP.x1 {B:Nat} {w:World} {g:Nat} {la:Option Addr} {lc:Nat} {s:SysF} (h:FinP B w g la lc s):w.cell? ⟨g,1,none⟩=some (.slice la s.ex.length lc):=h.t.x1
theorem FinP.x0 {B:Nat} {w:World} {g:Nat} {la:Option Addr} {lc:Nat} {s:SysF} (h:FinP B w g la lc s):w.cell? ⟨g,0,none⟩=some (.int .i64 s.N):=h.t.x0
theorem linked_quiet {T:Nat→Prop} {w:World} {g:Nat} {la:Option Addr} {lc:Nat} {s:SysF} {e f:Nat} (h:FinT T w g la lc s) (hN5:s.N≤5) (he:e<s.ex.length) (hf:f<s.ex.length):
  Calls Tryz.prog 34 #[.pointer (some ⟨g,0,none⟩),.int .i64 e,.int .i64 f] w (QuietP w (.int .i64 (byN s e f))):=by
 obtain ⟨q1,ea,ec,ce,ie⟩:=h.at he
 obtain ⟨q2,fa,fc,cf,jf⟩:=h.at hf
 have x0:=h.x0
 have x1:=h.x1
 have lg:=h.row.lt
 have be:=World.block_lt_of_cell? _ _ ce
 have bf:=World.block_lt_of_cell? _ _ cf
 have IE:=Lib.hid ie
 have JF:=Lib.hid jf
 have HE1:Hid (∀q,q<s.N→nth (fvL s e) q=fvw s e q):=Lib.hid fun q hq=>fvL_at s e hq
 have HF1:Hid (∀q,q<s.N→nth (fvL s f) q=fvw s f q):=Lib.hid fun q hq=>fvL_at s f hq
 have HLE:=Lib.hid (fvL_len s e)
 have HLF:=Lib.hid (fvL_len s f)
 obtain ⟨B,hB⟩:∃B,B=fun q=>lkB s q e f:=⟨_,rfl⟩
 have HBq:Hid (∀q,B q=(decide (0≤fvw s e q)&&decide (fvw s e q=fvw s f q))):=Lib.hid fun q=>by rw[hB];rfl
 have hby:byN s e f=setTo B s.N:=by rw[hB];rfl
 rw[hby]
 clear h ie jf hB hby
 go_enter Tryz.func34,Tryz.ntmps34
 go_wp2
 go_loopw [7,8,9,14] (fun st _ _ i wr=>∃k z:Nat,k≤s.N∧i=.int .i64 k∧st=.int .i64 z∧Hid (z=setTo B k)∧∃m,wr=w.drewN m) (fun _ _ _ i _=>s.N - (intOf i).toNat)
 case atStart=>exact ⟨0,0,Nat.zero_le _,rfl,rfl,Lib.hid rfl,0,rfl⟩
 case round=>
  obtain ⟨k,z,hk,rfl,rfl,HZ,m,rfl⟩:=hrel
  by_cases hlt:k<s.N
  case neg=>
   obtain rfl:k=s.N:=by omega
   have HZ2:=Lib.hid (int_eq (show (z:Int)=((setTo B s.N:Nat):Int) by rw[HZ.out]))
   go_wp2
   go_ret
   exact .of HZ2.out _
  have hz:z<2 ^ k:=by rw[HZ.out];exact setTo_lt B k
  have DOR:=Lib.hid (or_pow hz (show k≤5 by omega))
  have HS:Hid (setTo B (k+1)=if B k then z|||2 ^ k else z):=Lib.hid (by rw[HZ.out];rfl)
  have q3:=IE.out.idx (k:=k) (by rw[HLE.out];exact hlt)
  have q4:=JF.out.idx (k:=k) (by rw[HLF.out];exact hlt)
  have c3:=IE.out.cellN (k:=k) (by rw[HLE.out];exact hlt)
  have c4:=JF.out.cellN (k:=k) (by rw[HLF.out];exact hlt)
  rw[HE1.out k hlt]at c3
  rw[HF1.out k hlt]at c4
  have HB:=Lib.hid (HBq.out k)
  have b3:=World.block_lt_of_cell? _ _ c3
  have b4:=World.block_lt_of_cell? _ _ c4
  obtain ⟨x,hx⟩:∃x,x=fvw s e k:=⟨_,rfl⟩
  obtain ⟨y,hy⟩:∃y,y=fvw s f k:=⟨_,rfl⟩
  rw[←hx]at c3 HB
  rw[←hy]at c4 HB
  clear hz hx hy
  by_cases h0:0≤x
  case neg=>
   have d0:decide (0≤x)=false:=decide_eq_false h0
   have HZ2:Hid (z=setTo B (k+1)):=Lib.hid (by rw[HS.out,HB.out,d0];rfl)
   clear h0
   go_wp2
   go_roundw
   case rel=>exact ⟨k+1,z,by omega,by go_num,rfl,HZ2,m,rfl⟩
   case measure=>simp[intOf];omega
  have d0:decide (0≤x)=true:=decide_eq_true h0
  by_cases h1:x=y
  case neg=>
   have d1:(x==y)=false:=by simp[h1]
   have HZ2:Hid (z=setTo B (k+1)):=Lib.hid (by rw[HS.out,HB.out,decide_eq_false h1,Bool.and_false];rfl)
   clear h0 h1
   go_wp2
   go_roundw
   case rel=>exact ⟨k+1,z,by omega,by go_num,rfl,HZ2,m,rfl⟩
   case measure=>simp[intOf];omega
  have d1:(x==y)=true:=by simp[h1]
  have HZ2:Hid ((z|||2 ^ k:Nat)=setTo B (k+1)):=Lib.hid (by rw[HS.out,HB.out,d0,decide_eq_true h1];rfl)
  clear h0 h1
  go_wp2
  go_roundw
  case rel=>exact ⟨k+1,z|||2 ^ k,by omega,by go_num,int_eq DOR.out,HZ2,m,rfl⟩
  case measure=>simp[intOf];omega
theorem there_quiet {B:Nat} {w:World} {g:Nat} {la:Option Addr} {lc:Nat} {s:SysF} (e:Int) (h:FinP B w g la lc s):
  Calls Tryz.prog 46 #[.pointer (some ⟨g,0,none⟩),.int .i64 e] w (QuietP w (.bool (decide (0≤e∧e<s.ex.length)))):=by
 have x1:=h.x1
 have lg:=h.row.lt
 clear h
 by_cases h0:0≤e
 ·have d0:decide (0≤e)=true:=decide_eq_true h0
  by_cases h1:e<(s.ex.length:Int)
  ·have d1:decide (e<(s.ex.length:Int))=true:=decide_eq_true h1
   rw[decide_eq_true ⟨h0,h1⟩]
   go_enter Tryz.func46,Tryz.ntmps46
   go_wp2
   go_ret
   exact .of rfl 0
  ·have d1:decide (e<(s.ex.length:Int))=false:=decide_eq_false h1
   rw[decide_eq_false (fun h=>h1 h.2)]
   go_enter Tryz.func46,Tryz.ntmps46
   go_wp2
   go_ret
   exact .of rfl 0
 ·have d0:decide (0≤e)=false:=decide_eq_false h0
  rw[decide_eq_false (fun h=>h0 h.1)]
  go_enter Tryz.func46,Tryz.ntmps46
  go_wp2
  go_ret
  exact .of rfl 0
def ScnR (B:Nat) (s:SysF) (e f:Int) (w':World) (r:Value):Prop:=
 (thE s e f=0∧∃g la lc,r=.tuple #[.pointer (some ⟨g,0,none⟩),.int .i64 0]∧FinP B w' g la lc s)∨(thE s e f≠0∧r=.tuple #[.pointer none,.int .i64 (thE s e f)])
theorem FinP.low {B B':Nat} {w:World} {g:Nat} {la:Option Addr} {lc:Nat} {s:SysF} (h:FinP B w g la lc s) (hB:B'≤B):FinP B' w g la lc s:=⟨Nat.le_trans hB h.base,h.row,h.lists.mono fun b hb=>⟨Nat.le_trans hB hb.1,hb.2⟩⟩
theorem scene_calls {S S2:Nat→Prop} {w:World} {v vl:Value} {s:SysF} (e f:Int) (h:SysV S w v s) (hf:PFew s.p) (hl:Ints S2 w vl [e,f]):
  Calls Tryz.prog 33 #[v,vl] w (Post w (ScnR w.heap.size s e f)):=by
 have KO:Hid (∀W,Below w.heap.size w W→Calls Tryz.prog 37 #[v] W (Post W (OfR W.heap.size s))):=Lib.hid fun W hW=>fof_calls (h.ext hW) hf
 have HT:Hid (thE s e f=if verE s=0 then (if e<0∨(s.ex.length:Int)≤e∨f<0∨(s.ex.length:Int)≤f then 6 else 0) else verE s):=Lib.hid rfl
 have HD:Hid (∀w' r,(thE s e f=0∧∃g la lc,r=.tuple #[.pointer (some ⟨g,0,none⟩),.int .i64 0]∧FinP w.heap.size w' g la lc s)∨(thE s e f≠0∧r=.tuple #[.pointer none,.int .i64 (thE s e f)])→ScnR w.heap.size s e f w' r):=Lib.hid fun w' r h=>h
 obtain ⟨t,htt⟩:∃t,t=thE s e f:=⟨_,rfl⟩
 rw[←htt]at HT HD
 obtain ⟨lv,lvc,rfl,_⟩:=hl.form
 have ql0:∀W:World,(Instr.indexAt 44 (.slice lv 2 lvc) (.int .i64 0)).run Tryz.prog W=.ok (.pointer (some (adr lv 0))) W:=hl.idx (k:=0) (by simp)
 have ql1:∀W:World,(Instr.indexAt 44 (.slice lv 2 lvc) (.int .i64 1)).run Tryz.prog W=.ok (.pointer (some (adr lv 1))) W:=hl.idx (k:=1) (by simp)
 have cl0:w.cell? (adr lv 0)=some (.int .i64 e):=hl.cellN (k:=0) (by simp)
 have cl1:w.cell? (adr lv 1)=some (.int .i64 f):=hl.cellN (k:=1) (by simp)
 have HQ:=Lib.hid (And.intro ql0 ql1)
 have HC:=Lib.hid (And.intro cl0 cl1)
 obtain ⟨vc,vs,vt,vx,rfl,hc,hs,ht,hx⟩:=h
 obtain ⟨ca,cc,rfl,_⟩:=hc.form
 obtain ⟨sa,sc,rfl,_⟩:=hs.form
 obtain ⟨ta,tc,rfl,_⟩:=ht.form
 obtain ⟨xa,xc,rfl,xad,_⟩:=hx.form2
 have ex:=ext_alloc w (.cells #[.int .i64 s.p.n,.int .i64 s.p.ins,.int .i64 s.p.outs,.slice ca s.p.cs.length cc,.int .i64 s.p.an,.slice sa s.p.st.length sc,.int .i64 s.p.rounds,.int .i64 s.tn,.slice ta s.tab.length tc,.slice xa s.ex.length xc] 35)
 have R0:=row_new w [.int .i64 s.p.n,.int .i64 s.p.ins,.int .i64 s.p.outs,.slice ca s.p.cs.length cc,.int .i64 s.p.an,.slice sa s.p.st.length sc,.int .i64 s.p.rounds,.int .i64 s.tn,.slice ta s.tab.length tc,.slice xa s.ex.length xc] 35
 have t0:=R0.cell (j:=0) rfl
 have t1:=R0.cell (j:=1) rfl
 have t2:=R0.cell (j:=2) rfl
 have t3:=R0.cell (j:=3) rfl
 have t4:=R0.cell (j:=4) rfl
 have t5:=R0.cell (j:=5) rfl
 have t6:=R0.cell (j:=6) rfl
 have t7:=R0.cell (j:=7) rfl
 have t8:=R0.cell (j:=8) rfl
 have t9:=R0.cell (j:=9) rfl
 have l0:=R0.lt
 rw[show [e,f].length=2 from rfl]
 clear hc hs ht hx xad hf hl htt ql0 ql1 cl0 cl1
 go_enter Tryz.func33,Tryz.ntmps33
 go_wp2_with fail
 refine (KO.out _ ex).mono ?_
 rintro _ w1 ⟨_,rfl,hb,hO⟩
 replace R0:=R0.ext hb
 replace ex:=ext_trans ex hb
 clear hb KO t0 t1 t2 t3 t4 t5 t6 t7 t8 t9 l0
 rcases hO with ⟨hv,g,la,lc,rfl,hF⟩ | ⟨hv,rfl⟩
 case inr=>
  have d0:(verE s !=0)=true:=by simp[hv]
  have h2:=HT.out.trans (if_neg hv)
  have RR:=Lib.hid (HD.out w1 _ (.inr ⟨by rw[h2];exact hv,rfl⟩))
  rw[h2]at RR
  clear h2 hv
  go_wp2
  go_ret2
  exact .mk ex RR.out
 have HT2:=Lib.hid (HT.out.trans (if_pos hv))
 have d0:((0:Int) !=0)=false:=rfl
 have hsz:=ex.size
 have hF:=hF.low (B':=w.heap.size) (by simp)
 have HF:=Lib.hid hF
 have hb0:=Below.refl w1.heap.size w1
 have HEX:=Lib.hid ex
 clear hv HT ex R0 hF
 go_wp2
 go_loopw [9,20] (fun _ i wr=>∃k:Nat,k≤2∧i=.int .i64 k∧Below w1.heap.size w1 wr∧Hid ((0<k→0≤e∧e<s.ex.length)∧(1<k→0≤f∧f<s.ex.length))) (fun _ i _=>2 - (intOf i).toNat)
 case atStart=>exact ⟨0,by omega,rfl,hb0,Lib.hid ⟨fun h=>by omega,fun h=>by omega⟩⟩
 case round=>
  clear hb0
  obtain ⟨k,hk,rfl,hb,HK⟩:=hrel
  by_cases hlt:k<2
  case neg=>
   obtain rfl:k=2:=by omega
   obtain ⟨k1,k2⟩:=HK.out
   have k1:=k1 (by omega)
   have k2:=k2 (by omega)
   have h2:=HT2.out.trans (if_neg (by omega))
   have RR:=Lib.hid (HD.out wr _ (.inl ⟨h2,g,la,lc,rfl,HF.out.ext hb⟩))
   have ex:=ext_trans HEX.out hb
   clear k1 k2 h2
   go_wp2
   go_ret2
   exact .mk ex RR.out
  have hqc:∃z:Int,(∀W:World,(Instr.indexAt 44 (.slice lv 2 lvc) (.int .i64 k)).run Tryz.prog W=.ok (.pointer (some (adr lv k))) W)∧wr.cell? (adr lv k)=some (.int .i64 z)∧(t≠0→t=6∨True)∧(¬(0≤z∧z<s.ex.length)→t=6)∧((0≤z∧z<s.ex.length)→(0<k+1→0≤e∧e<s.ex.length)∧(1<k+1→0≤f∧f<s.ex.length)):=by
   have hh:k=0∨k=1:=by omega
   rcases hh with rfl | rfl
   ·refine ⟨e,HQ.out.1,cell_ext HC.out.1 (ext_trans HEX.out hb),fun _=>.inr trivial,fun hz=>HT2.out.trans (if_pos (by omega)),fun hz=>⟨fun _=>hz,fun h=>by omega⟩⟩
   ·refine ⟨f,HQ.out.2,cell_ext HC.out.2 (ext_trans HEX.out hb),fun _=>.inr trivial,fun hz=>HT2.out.trans (if_pos (by omega)),fun hz=>⟨fun _=>HK.out.1 (by omega),fun _=>hz⟩⟩
  obtain ⟨z,qk,ck,_,hz1,hz2⟩:=hqc
  have HZ1:=Lib.hid hz1
  have HZ2:=Lib.hid hz2
  have bk:=World.block_lt_of_cell? _ _ ck
  have KT:=Lib.hid ((there_quiet z (HF.out.ext hb)).mono fun _ _ h=>h.take)
  clear hz1 hz2
  by_cases hz:0≤z∧z<(s.ex.length:Int)
  ·rw[decide_eq_true hz]at KT
   have HN:=Lib.hid (HZ2.out hz)
   clear hz
   go_wp2_with fail
   refine KT.out.mono ?_
   rintro _ w2 ⟨_,rfl,hq,rfl⟩
   have hb2:=ext_trans hb hq.ext
   clear hq hb KT ck bk qk
   go_wp2
   go_roundw
   case rel=>exact ⟨k+1,by omega,by go_num,hb2,HN⟩
   case measure=>simp[intOf];omega
  ·rw[decide_eq_false hz]at KT
   have h6:=HZ1.out hz
   have RR:=Lib.hid (fun w'=>HD.out w' _ (.inr ⟨by rw[h6];decide,rfl⟩))
   rw[h6]at RR
   clear hz h6
   go_wp2_with fail
   refine KT.out.mono ?_
   rintro _ w2 ⟨_,rfl,hq,rfl⟩
   have ex:=ext_trans (ext_trans HEX.out hb) hq.ext
   clear hq hb KT ck bk qk
   go_wp2
   go_ret2
   exact .mk ex (RR.out _)
theorem pLinked_calls {S:Nat→Prop} {w:World} {v:Value} {s:SysF} (e f:Int) (he:WF e) (hf':WF f) (h:SysV S w v s) (hf:PFew s.p):
  Calls Tryz.prog 12 #[v,.int .i64 e,.int .i64 f] w (Post w fun _ r=>LnkR s e f r):=by
 have KS:Hid (∀(S2:Nat→Prop) W vl,Below w.heap.size w W→Ints S2 W vl [e,f]→Calls Tryz.prog 33 #[v,vl] W (Post W (ScnR W.heap.size s e f))):=Lib.hid fun S2 W vl hW hl=>scene_calls e f (h.ext hW) hf hl
 have KB:Hid (thE s e f=0→s.N≤5∧∃x y:Nat,e=x∧f=y∧x<s.ex.length∧y<s.ex.length∧LnkR s e f (.tuple #[.int .i64 (byN s x y),.int .i64 0])):=Lib.hid fun h0=>by
  obtain ⟨h1,x,y,rfl,rfl,hx,hy⟩:=thE_ok h0
  exact ⟨(good_sys h1 h.moves8).pok.n1.2,x,y,rfl,rfl,hx,hy,lnk_ok h0⟩
 have HE:Hid (thE s e f≠0→LnkR s e f (.tuple #[.int .i64 0,.int .i64 (thE s e f)])):=Lib.hid lnk_err
 obtain ⟨LR,hLR⟩:∃LR,LR=LnkR s e f:=⟨_,rfl⟩
 rw[←hLR]at KB HE ⊢
 have HWF:Hid (∀x∈[e,f],WF x):=Lib.hid fun x hx=>by
  rcases List.mem_cons.1 hx with rfl | hx
  ·exact he
  ·rw[List.mem_singleton.1 hx];exact hf'
 obtain ⟨vc,vs,vt,vx,rfl,hc,hs,ht,hx⟩:=h
 obtain ⟨ca,cc,rfl,_⟩:=hc.form
 obtain ⟨sa,sc,rfl,_⟩:=hs.form
 obtain ⟨ta,tc,rfl,_⟩:=ht.form
 obtain ⟨xa,xc,rfl,xad,_⟩:=hx.form2
 have ex:=ext_alloc w (.cells #[.int .i64 s.p.n,.int .i64 s.p.ins,.int .i64 s.p.outs,.slice ca s.p.cs.length cc,.int .i64 s.p.an,.slice sa s.p.st.length sc,.int .i64 s.p.rounds,.int .i64 s.tn,.slice ta s.tab.length tc,.slice xa s.ex.length xc] 35)
 have R0:=row_new w [.int .i64 s.p.n,.int .i64 s.p.ins,.int .i64 s.p.outs,.slice ca s.p.cs.length cc,.int .i64 s.p.an,.slice sa s.p.st.length sc,.int .i64 s.p.rounds,.int .i64 s.tn,.slice ta s.tab.length tc,.slice xa s.ex.length xc] 35
 have RL:=row_new (w.alloc (.cells #[.int .i64 s.p.n,.int .i64 s.p.ins,.int .i64 s.p.outs,.slice ca s.p.cs.length cc,.int .i64 s.p.an,.slice sa s.p.st.length sc,.int .i64 s.p.rounds,.int .i64 s.tn,.slice ta s.tab.length tc,.slice xa s.ex.length xc] 35)) [.int .i64 e,.int .i64 f] 3
 have HL:=Lib.hid (RL.ints (l:=[e,f]) (by simp[maxLen]) HWF.out)
 have ex2:=ext_alloc' ex (.cells #[.int .i64 e,.int .i64 f] 3)
 replace R0:=R0.alloc (.cells #[.int .i64 e,.int .i64 f] 3)
 have R00:=row_new w [.int .i64 s.p.n,.int .i64 s.p.ins,.int .i64 s.p.outs,.slice ca s.p.cs.length cc,.int .i64 s.p.an,.slice sa s.p.st.length sc,.int .i64 s.p.rounds,.int .i64 s.tn,.slice ta s.tab.length tc,.slice xa s.ex.length xc] 35
 have t0:=R00.cell (j:=0) rfl
 have t1:=R00.cell (j:=1) rfl
 have t2:=R00.cell (j:=2) rfl
 have t3:=R00.cell (j:=3) rfl
 have t4:=R00.cell (j:=4) rfl
 have t5:=R00.cell (j:=5) rfl
 have t6:=R00.cell (j:=6) rfl
 have t7:=R00.cell (j:=7) rfl
 have t8:=R00.cell (j:=8) rfl
 have t9:=R00.cell (j:=9) rfl
 have l0:=R00.lt
 rw[World.size_alloc]at HL
 clear hc hs ht hx xad hf hLR ex RL he hf' R00
 go_enter Tryz.func12,Tryz.ntmps12
 go_wp2_with fail
 refine (KS.out _ _ _ ex2 HL.out).mono ?_
 rintro _ w1 ⟨_,rfl,hb,hO⟩
 have ex:=ext_trans ex2 hb
 clear KS HL ex2 t0 t1 t2 t3 t4 t5 t6 t7 t8 t9 l0 hb
 rcases hO with ⟨hv,g,la,lc,rfl,hF⟩ | ⟨hv,rfl⟩
 case inr=>
  have RR:=Lib.hid (HE.out hv)
  obtain ⟨t,htt⟩:∃t,t=thE s e f:=⟨_,rfl⟩
  rw[←htt]at RR hv ⊢
  have d0:(t !=0)=true:=by simp[hv]
  clear htt hv
  go_wp2
  go_ret2
  exact .mk ex RR.out
 obtain ⟨hN5,x,y,rfl,rfl,hx,hy,hR⟩:=KB.out hv
 have RR:=Lib.hid hR
 have KL:=Lib.hid ((linked_quiet hF.t hN5 hx hy).mono fun _ _ h=>h.take)
 have d0:((0:Int) !=0)=false:=rfl
 clear hv hR KB HE hF
 go_wp2_with fail
 refine KL.out.mono ?_
 rintro _ w2 ⟨_,rfl,hq,rfl⟩
 have ex3:=ext_trans ex hq.ext
 go_wp2
 go_ret2
 exact .mk ex3 RR.out
end Go.Proofs.YtaijafjfafbcfaaGreat
