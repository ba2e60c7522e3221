/- Part of the proof that the laws answer true for every input. -/
import Derived.Test.YtaijafjfafbcfaaGreatPXa40
import Derived.Test.YtaijafjfafbcfaaGreatPXa32
import Derived.Test.YtaijafjfafbcfaaGreatPXa31
import Derived.Test.YtaijafjfafbcfaaGreatPXa20
import Derived.Test.YtaijafjfafbcfaaGreatPXa09
set_option linter.unusedSimpArgs false
set_option linter.unnecessarySimpa false
set_option linter.unusedVariables false
set_option maxRecDepth 100000
set_option maxHeartbeats 40000000
namespace Go.Proofs.YtaijafjfafbcfaaGreat
open Go.RowKit
attribute [local go_sem ↓] Go.wp_at_zero Go.wp_at_succ
theorem wrap_pow {k:Nat} (h:k≤5):wrap64 ((2:Int) ^ k)=((2 ^ k:Nat):Int):=by
 have:k=0∨k=1∨k=2∨k=3∨k=4∨k=5:=by omega
 rcases this with rfl | rfl | rfl | rfl | rfl | rfl<;>decide+kernel
theorem or_pow {z k:Nat} (hz:z<2 ^ k) (h:k≤5):bits .or .i64 (z:Int) (wrap64 ((2:Int) ^ k))=((z|||2 ^ k:Nat):Int):=by
 have:=Nat.pow_le_pow_right (n:=2) (by decide) h
 rw[wrap_pow h]
 exact or_nat (by omega) (by omega)
structure FinT (T:Nat→Prop) (w:World) (g:Nat) (la:Option Addr) (lc:Nat) (s:SysF):Prop where
 own:T g
 row:Row w g 90 [.int .i64 s.N,.slice la s.ex.length lc]
 lists:Lists T w (.slice la s.ex.length lc) (fvT s)
theorem FinP.t {B:Nat} {w:World} {g:Nat} {la:Option Addr} {lc:Nat} {s:SysF} (h:FinP B w g la lc s):FinT (fun b=>b<w.heap.size) w g la lc s:=⟨h.row.lt,h.row,h.lists.block.mono fun _ hb=>hb.2⟩
theorem FinT.agree {T:Nat→Prop} {w w':World} {g:Nat} {la:Option Addr} {lc:Nat} {s:SysF} (h:FinT T w g la lc s) (hw:Agree T w w'):FinT T w' g la lc s:=⟨h.own,h.row.agree hw h.own,h.lists.agree hw⟩
theorem FinT.ext {T:Nat→Prop} {w w':World} {g:Nat} {la:Option Addr} {lc:Nat} {s:SysF} (h:FinT T w g la lc s) (hw:Below w.heap.size w w'):FinT T w' g la lc s:=⟨h.own,h.row.ext hw,h.lists.ext hw⟩
theorem FinT.mono {T T':Nat→Prop} {w:World} {g:Nat} {la:Option Addr} {lc:Nat} {s:SysF} (h:FinT T w g la lc s) (hT:∀b,T b→T' b):FinT T' w g la lc s:=⟨hT _ h.own,h.row,h.lists.mono hT⟩
theorem FinT.x1 {T:Nat→Prop} {w:World} {g:Nat} {la:Option Addr} {lc:Nat} {s:SysF} (h:FinT T w g la lc s):w.cell? ⟨g,1,none⟩=some (.slice la s.ex.length lc):=h.row.cell (j:=1) rfl
theorem FinT.x0 {T:Nat→Prop} {w:World} {g:Nat} {la:Option Addr} {lc:Nat} {s:SysF} (h:FinT T w g la lc s):w.cell? ⟨g,0,none⟩=some (.int .i64 s.N):=h.row.cell (j:=0) rfl
theorem FinT.at {T:Nat→Prop} {w:World} {g:Nat} {la:Option Addr} {lc:Nat} {s:SysF} (h:FinT T w g la lc s) {e:Nat} (he:e<s.ex.length):
  (∀W:World,(Instr.indexAt 79 (.slice la s.ex.length lc) (.int .i64 e)).run Tryz.prog W=.ok (.pointer (some (adr la e))) W)∧∃fa fc,w.cell? (adr la e)=some (.slice fa s.N fc)∧Ints T w (.slice fa s.N fc) (fvL s e):=by
 have hl:e<(fvT s).length:=by rw[fvT_len];exact he
 have h3:=h.lists
 rw[←fvT_len]at h3
 refine ⟨idx_lists h.lists hl,?_⟩
 obtain ⟨u,cu,iu⟩:=h3.at (.refl _ _) hl
 rw[fvT_at s he]at iu
 obtain ⟨fa,fc,rfl,_⟩:=iu.form
 rw[fvL_len]at cu iu
 exact ⟨fa,fc,cu,iu⟩
theorem FinP.x1 {B:Nat} {w:World} {g:Nat} {la:Option Addr} {lc:Nat} {s:SysF} (h:FinP B w g la lc s):w.cell? ⟨g,1,none⟩=some (.slice la s.ex.length lc):=h.t.x1
theorem FinP.x0 {B:Nat} {w:World} {g:Nat} {la:Option Addr} {lc:Nat} {s:SysF} (h:FinP B w g la lc s):w.cell? ⟨g,0,none⟩=some (.int .i64 s.N):=h.t.x0
theorem linked_quiet {T:Nat→Prop} {w:World} {g:Nat} {la:Option Addr} {lc:Nat} {s:SysF} {e f:Nat} (h:FinT T w g la lc s) (hN5:s.N≤5) (he:e<s.ex.length) (hf:f<s.ex.length):
  Calls Tryz.prog 34 #[.pointer (some ⟨g,0,none⟩),.int .i64 e,.int .i64 f] w (QuietP w (.int .i64 (byN s e f))):=by
 obtain ⟨q1,ea,ec,ce,ie⟩:=h.at he
 obtain ⟨q2,fa,fc,cf,jf⟩:=h.at hf
 have x0:=h.x0
 have x1:=h.x1
 have lg:=h.row.lt
 have be:=World.block_lt_of_cell? _ _ ce
 have bf:=World.block_lt_of_cell? _ _ cf
 have IE:=Lib.hid ie
 have JF:=Lib.hid jf
 have HE1:Hid (∀q,q<s.N→nth (fvL s e) q=fvw s e q):=Lib.hid fun q hq=>fvL_at s e hq
 have HF1:Hid (∀q,q<s.N→nth (fvL s f) q=fvw s f q):=Lib.hid fun q hq=>fvL_at s f hq
 have HLE:=Lib.hid (fvL_len s e)
 have HLF:=Lib.hid (fvL_len s f)
 obtain ⟨B,hB⟩:∃B,B=fun q=>lkB s q e f:=⟨_,rfl⟩
 have HBq:Hid (∀q,B q=(decide (0≤fvw s e q)&&decide (fvw s e q=fvw s f q))):=Lib.hid fun q=>by rw[hB];rfl
 have hby:byN s e f=setTo B s.N:=by rw[hB];rfl
 rw[hby]
 clear h ie jf hB hby
 go_enter Tryz.func34,Tryz.ntmps34
 go_wp2
 go_loopw [7,8,9,14] (fun st _ _ i wr=>∃k z:Nat,k≤s.N∧i=.int .i64 k∧st=.int .i64 z∧Hid (z=setTo B k)∧∃m,wr=w.drewN m) (fun _ _ _ i _=>s.N - (intOf i).toNat)
 case atStart=>exact ⟨0,0,Nat.zero_le _,rfl,rfl,Lib.hid rfl,0,rfl⟩
 case round=>
  obtain ⟨k,z,hk,rfl,rfl,HZ,m,rfl⟩:=hrel
  by_cases hlt:k<s.N
  case neg=>
   obtain rfl:k=s.N:=by omega
   have HZ2:=Lib.hid (int_eq (show (z:Int)=((setTo B s.N:Nat):Int) by rw[HZ.out]))
   go_wp2
   go_ret
   exact .of HZ2.out _
  have hz:z<2 ^ k:=by rw[HZ.out];exact setTo_lt B k
  have DOR:=Lib.hid (or_pow hz (show k≤5 by omega))
  have HS:Hid (setTo B (k+1)=if B k then z|||2 ^ k else z):=Lib.hid (by rw[HZ.out];rfl)
  have q3:=IE.out.idx (k:=k) (by rw[HLE.out];exact hlt)
  have q4:=JF.out.idx (k:=k) (by rw[HLF.out];exact hlt)
  have c3:=IE.out.cellN (k:=k) (by rw[HLE.out];exact hlt)
  have c4:=JF.out.cellN (k:=k) (by rw[HLF.out];exact hlt)
  rw[HE1.out k hlt]at c3
  rw[HF1.out k hlt]at c4
  have HB:=Lib.hid (HBq.out k)
  have b3:=World.block_lt_of_cell? _ _ c3
  have b4:=World.block_lt_of_cell? _ _ c4
  obtain ⟨x,hx⟩:∃x,x=fvw s e k:=⟨_,rfl⟩
  obtain ⟨y,hy⟩:∃y,y=fvw s f k:=⟨_,rfl⟩
  rw[←hx]at c3 HB
  rw[←hy]at c4 HB
  clear hz hx hy
  by_cases h0:0≤x
  case neg=>
   have d0:decide (0≤x)=false:=decide_eq_false h0
   have HZ2:Hid (z=setTo B (k+1)):=Lib.hid (by rw[HS.out,HB.out,d0];rfl)
   clear h0
   go_wp2
   go_roundw
   case rel=>exact ⟨k+1,z,by omega,by go_num,rfl,HZ2,m,rfl⟩
   case measure=>simp[intOf];omega
  have d0:decide (0≤x)=true:=decide_eq_true h0
  by_cases h1:x=y
  case neg=>
   have d1:(x==y)=false:=by simp[h1]
   have HZ2:Hid (z=setTo B (k+1)):=Lib.hid (by rw[HS.out,HB.out,decide_eq_false h1,Bool.and_false];rfl)
   clear h0 h1
   go_wp2
   go_roundw
   case rel=>exact ⟨k+1,z,by omega,by go_num,rfl,HZ2,m,rfl⟩
   case measure=>simp[intOf];omega
  have d1:(x==y)=true:=by simp[h1]
  have HZ2:Hid ((z|||2 ^ k:Nat)=setTo B (k+1)):=Lib.hid (by rw[HS.out,HB.out,d0,decide_eq_true h1];rfl)
  clear h0 h1
  go_wp2
  go_roundw
  case rel=>exact ⟨k+1,z|||2 ^ k,by omega,by go_num,int_eq DOR.out,HZ2,m,rfl⟩
  case measure=>simp[intOf];omega
theorem there_quiet {B:Nat} {w:World} {g:Nat} {la:Option Addr} {lc:Nat} {s:SysF} (e:Int) (h:FinP B w g la lc s):
  Calls Tryz.prog 46 #[.pointer (some ⟨g,0,none⟩),.int .i64 e] w (QuietP w (.bool (decide (0≤e∧e<s.ex.length)))):=by
 have x1:=h.x1
 have lg:=h.row.lt
 clear h
 by_cases h0:0≤e
 ·have d0:decide (0≤e)=true:=decide_eq_true h0
  by_cases h1:e<(s.ex.length:Int)
  ·have d1:decide (e<(s.ex.length:Int))=true:=decide_eq_true h1
   rw[decide_eq_true ⟨h0,h1⟩]
   go_enter Tryz.func46,Tryz.ntmps46
   go_wp2
   go_ret
   exact .of rfl 0
  ·have d1:decide (e<(s.ex.length:Int))=false:=decide_eq_false h1
   rw[decide_eq_false (fun h=>h1 h.2)]
   go_enter Tryz.func46,Tryz.ntmps46
   go_wp2
   go_ret
   exact .of rfl 0
 ·have d0:decide (0≤e)=false:=decide_eq_false h0
  rw[decide_eq_false (fun h=>h0 h.1)]
  go_enter Tryz.func46,Tryz.ntmps46
  go_wp2
  go_ret
  exact .of rfl 0
def ScnR (B:Nat) (s:SysF) (e f:Int) (w':World) (r:Value):Prop:=
 (thE s e f=0∧∃g la lc,r=.tuple #[.pointer (some ⟨g,0,none⟩),.int .i64 0]∧FinP B w' g la lc s)∨(thE s e f≠0∧r=.tuple #[.pointer none,.int .i64 (thE s e f)])
theorem FinP.low {B B':Nat} {w:World} {g:Nat} {la:Option Addr} {lc:Nat} {s:SysF} (h:FinP B w g la lc s) (hB:B'≤B):FinP B' w g la lc s:=⟨Nat.le_trans hB h.base,h.row,h.lists.mono fun b hb=>⟨Nat.le_trans hB hb.1,hb.2⟩⟩
theorem scene_calls {S S2:Nat→Prop} {w:World} {v vl:Value} {s:SysF} (e f:Int) (h:SysV S w v s) (hf:PFew s.p) (hl:Ints S2 w vl [e,f]):
  Calls Tryz.prog 33 #[v,vl] w (Post w (ScnR w.heap.size s e f)):=by
 have KO:Hid (∀W,Below w.heap.size w W→Calls Tryz.prog 37 #[v] W (Post W (OfR W.heap.size s))):=Lib.hid fun W hW=>fof_calls (h.ext hW) hf
 have HT:Hid (thE s e f=if verE s=0 then (if e<0∨(s.ex.length:Int)≤e∨f<0∨(s.ex.length:Int)≤f then 6 else 0) else verE s):=Lib.hid rfl
 have HD:Hid (∀w' r,(thE s e f=0∧∃g la lc,r=.tuple #[.pointer (some ⟨g,0,none⟩),.int .i64 0]∧FinP w.heap.size w' g la lc s)∨(thE s e f≠0∧r=.tuple #[.pointer none,.int .i64 (thE s e f)])→ScnR w.heap.size s e f w' r):=Lib.hid fun w' r h=>h
 obtain ⟨t,htt⟩:∃t,t=thE s e f:=⟨_,rfl⟩
 rw[←htt]at HT HD
 obtain ⟨lv,lvc,rfl,_⟩:=hl.form
 have ql0:∀W:World,(Instr.indexAt 44 (.slice lv 2 lvc) (.int .i64 0)).run Tryz.prog W=.ok (.pointer (some (adr lv 0))) W:=hl.idx (k:=0) (by simp)
 have ql1:∀W:World,(Instr.indexAt 44 (.slice lv 2 lvc) (.int .i64 1)).run Tryz.prog W=.ok (.pointer (some (adr lv 1))) W:=hl.idx (k:=1) (by simp)
 have cl0:w.cell? (adr lv 0)=some (.int .i64 e):=hl.cellN (k:=0) (by simp)
 have cl1:w.cell? (adr lv 1)=some (.int .i64 f):=hl.cellN (k:=1) (by simp)
 have HQ:=Lib.hid (And.intro ql0 ql1)
 have HC:=Lib.hid (And.intro cl0 cl1)
 obtain ⟨vc,vs,vt,vx,rfl,hc,hs,ht,hx⟩:=h
 obtain ⟨ca,cc,rfl,_⟩:=hc.form
 obtain ⟨sa,sc,rfl,_⟩:=hs.form
 obtain ⟨ta,tc,rfl,_⟩:=ht.form
 obtain ⟨xa,xc,rfl,xad,_⟩:=hx.form2
 have ex:=ext_alloc w (.cells #[.int .i64 s.p.n,.int .i64 s.p.ins,.int .i64 s.p.outs,.slice ca s.p.cs.length cc,.int .i64 s.p.an,.slice sa s.p.st.length sc,.int .i64 s.p.rounds,.int .i64 s.tn,.slice ta s.tab.length tc,.slice xa s.ex.length xc] 35)
 have R0:=row_new w [.int .i64 s.p.n,.int .i64 s.p.ins,.int .i64 s.p.outs,.slice ca s.p.cs.length cc,.int .i64 s.p.an,.slice sa s.p.st.length sc,.int .i64 s.p.rounds,.int .i64 s.tn,.slice ta s.tab.length tc,.slice xa s.ex.length xc] 35
 have t0:=R0.cell (j:=0) rfl
 have t1:=R0.cell (j:=1) rfl
 have t2:=R0.cell (j:=2) rfl
 have t3:=R0.cell (j:=3) rfl
 have t4:=R0.cell (j:=4) rfl
 have t5:=R0.cell (j:=5) rfl
 have t6:=R0.cell (j:=6) rfl
 have t7:=R0.cell (j:=7) rfl
 have t8:=R0.cell (j:=8) rfl
 have t9:=R0.cell (j:=9) rfl
 have l0:=R0.lt
 rw[show [e,f].length=2 from rfl]
 clear hc hs ht hx xad hf hl htt ql0 ql1 cl0 cl1
 go_enter Tryz.func33,Tryz.ntmps33
 go_wp2_with fail
 refine (KO.out _ ex).mono ?_
 rintro _ w1 ⟨_,rfl,hb,hO⟩
 replace R0:=R0.ext hb
 replace ex:=ext_trans ex hb
 clear hb KO t0 t1 t2 t3 t4 t5 t6 t7 t8 t9 l0
 rcases hO with ⟨hv,g,la,lc,rfl,hF⟩ | ⟨hv,rfl⟩
 case inr=>
  have d0:(verE s !=0)=true:=by simp[hv]
  have h2:=HT.out.trans (if_neg hv)
  have RR:=Lib.hid (HD.out w1 _ (.inr ⟨by rw[h2];exact hv,rfl⟩))
  rw[h2]at RR
  clear h2 hv
  go_wp2
  go_ret2
  exact .mk ex RR.out
 have HT2:=Lib.hid (HT.out.trans (if_pos hv))
 have d0:((0:Int) !=0)=false:=rfl
 have hsz:=ex.size
 have hF:=hF.low (B':=w.heap.size) (by simp)
 have HF:=Lib.hid hF
 have hb0:=Below.refl w1.heap.size w1
 have HEX:=Lib.hid ex
 clear hv HT ex R0 hF
 go_wp2
 go_loopw [9,20] (fun _ i wr=>∃k:Nat,k≤2∧i=.int .i64 k∧Below w1.heap.size w1 wr∧Hid ((0<k→0≤e∧e<s.ex.length)∧(1<k→0≤f∧f<s.ex.length))) (fun _ i _=>2 - (intOf i).toNat)
 case atStart=>exact ⟨0,by omega,rfl,hb0,Lib.hid ⟨fun h=>by omega,fun h=>by omega⟩⟩
 case round=>
  clear hb0
  obtain ⟨k,hk,rfl,hb,HK⟩:=hrel
  by_cases hlt:k<2
  case neg=>
   obtain rfl:k=2:=by omega
   obtain ⟨k1,k2⟩:=HK.out
   have k1:=k1 (by omega)
   have k2:=k2 (by omega)
   have h2:=HT2.out.trans (if_neg (by omega))
   have RR:=Lib.hid (HD.out wr _ (.inl ⟨h2,g,la,lc,rfl,HF.out.ext hb⟩))
   have ex:=ext_trans HEX.out hb
   clear k1 k2 h2
   go_wp2
   go_ret2
   exact .mk ex RR.out
  have hqc:∃z:Int,(∀W:World,(Instr.indexAt 44 (.slice lv 2 lvc) (.int .i64 k)).run Tryz.prog W=.ok (.pointer (some (adr lv k))) W)∧wr.cell? (adr lv k)=some (.int .i64 z)∧(t≠0→t=6∨True)∧(¬(0≤z∧z<s.ex.length)→t=6)∧((0≤z∧z<s.ex.length)→(0<k+1→0≤e∧e<s.ex.length)∧(1<k+1→0≤f∧f<s.ex.length)):=by
   have hh:k=0∨k=1:=by omega
   rcases hh with rfl | rfl
   ·refine ⟨e,HQ.out.1,cell_ext HC.out.1 (ext_trans HEX.out hb),fun _=>.inr trivial,fun hz=>HT2.out.trans (if_pos (by omega)),fun hz=>⟨fun _=>hz,fun h=>by omega⟩⟩
   ·refine ⟨f,HQ.out.2,cell_ext HC.out.2 (ext_trans HEX.out hb),fun _=>.inr trivial,fun hz=>HT2.out.trans (if_pos (by omega)),fun hz=>⟨fun _=>HK.out.1 (by omega),fun _=>hz⟩⟩
  obtain ⟨z,qk,ck,_,hz1,hz2⟩:=hqc
  have HZ1:=Lib.hid hz1
  have HZ2:=Lib.hid hz2
  have bk:=World.block_lt_of_cell? _ _ ck
  have KT:=Lib.hid ((there_quiet z (HF.out.ext hb)).mono fun _ _ h=>h.take)
  clear hz1 hz2
  by_cases hz:0≤z∧z<(s.ex.length:Int)
  ·rw[decide_eq_true hz]at KT
   have HN:=Lib.hid (HZ2.out hz)
   clear hz
   go_wp2_with fail
   refine KT.out.mono ?_
   rintro _ w2 ⟨_,rfl,hq,rfl⟩
   have hb2:=ext_trans hb hq.ext
   clear hq hb KT ck bk qk
   go_wp2
   go_roundw
   case rel=>exact ⟨k+1,by omega,by go_num,hb2,HN⟩
   case measure=>simp[intOf];omega
  ·rw[decide_eq_false hz]at KT
   have h6:=HZ1.out hz
   have RR:=Lib.hid (fun w'=>HD.out w' _ (.inr ⟨by rw[h6];decide,rfl⟩))
   rw[h6]at RR
   clear hz h6
   go_wp2_with fail
   refine KT.out.mono ?_
   rintro _ w2 ⟨_,rfl,hq,rfl⟩
   have ex:=ext_trans (ext_trans HEX.out hb) hq.ext
   clear hq hb KT ck bk qk
   go_wp2
   go_ret2
   exact .mk ex (RR.out _)
theorem pLinked_calls {S:Nat→Prop} {w:World} {v:Value} {s:SysF} (e f:Int) (he:WF e) (hf':WF f) (h:SysV S w v s) (hf:PFew s.p):
  Calls Tryz.prog 12 #[v,.int .i64 e,.int .i64 f] w (Post w fun _ r=>LnkR s e f r):=by
 have KS:Hid (∀(S2:Nat→Prop) W vl,Below w.heap.size w W→Ints S2 W vl [e,f]→Calls Tryz.prog 33 #[v,vl] W (Post W (ScnR W.heap.size s e f))):=Lib.hid fun S2 W vl hW hl=>scene_calls e f (h.ext hW) hf hl
 have KB:Hid (thE s e f=0→s.N≤5∧∃x y:Nat,e=x∧f=y∧x<s.ex.length∧y<s.ex.length∧LnkR s e f (.tuple #[.int .i64 (byN s x y),.int .i64 0])):=Lib.hid fun h0=>by
  obtain ⟨h1,x,y,rfl,rfl,hx,hy⟩:=thE_ok h0
  exact ⟨(good_sys h1 h.moves8).pok.n1.2,x,y,rfl,rfl,hx,hy,lnk_ok h0⟩
 have HE:Hid (thE s e f≠0→LnkR s e f (.tuple #[.int .i64 0,.int .i64 (thE s e f)])):=Lib.hid lnk_err
 obtain ⟨LR,hLR⟩:∃LR,LR=LnkR s e f:=⟨_,rfl⟩
 rw[←hLR]at KB HE ⊢
 have HWF:Hid (∀x∈[e,f],WF x):=Lib.hid fun x hx=>by
  rcases List.mem_cons.1 hx with rfl | hx
  ·exact he
  ·rw[List.mem_singleton.1 hx];exact hf'
 obtain ⟨vc,vs,vt,vx,rfl,hc,hs,ht,hx⟩:=h
 obtain ⟨ca,cc,rfl,_⟩:=hc.form
 obtain ⟨sa,sc,rfl,_⟩:=hs.form
 obtain ⟨ta,tc,rfl,_⟩:=ht.form
 obtain ⟨xa,xc,rfl,xad,_⟩:=hx.form2
 have ex:=ext_alloc w (.cells #[.int .i64 s.p.n,.int .i64 s.p.ins,.int .i64 s.p.outs,.slice ca s.p.cs.length cc,.int .i64 s.p.an,.slice sa s.p.st.length sc,.int .i64 s.p.rounds,.int .i64 s.tn,.slice ta s.tab.length tc,.slice xa s.ex.length xc] 35)
 have R0:=row_new w [.int .i64 s.p.n,.int .i64 s.p.ins,.int .i64 s.p.outs,.slice ca s.p.cs.length cc,.int .i64 s.p.an,.slice sa s.p.st.length sc,.int .i64 s.p.rounds,.int .i64 s.tn,.slice ta s.tab.length tc,.slice xa s.ex.length xc] 35
 have RL:=row_new (w.alloc (.cells #[.int .i64 s.p.n,.int .i64 s.p.ins,.int .i64 s.p.outs,.slice ca s.p.cs.length cc,.int .i64 s.p.an,.slice sa s.p.st.length sc,.int .i64 s.p.rounds,.int .i64 s.tn,.slice ta s.tab.length tc,.slice xa s.ex.length xc] 35)) [.int .i64 e,.int .i64 f] 3
 have HL:=Lib.hid (RL.ints (l:=[e,f]) (by simp[maxLen]) HWF.out)
 have ex2:=ext_alloc' ex (.cells #[.int .i64 e,.int .i64 f] 3)
 replace R0:=R0.alloc (.cells #[.int .i64 e,.int .i64 f] 3)
 have R00:=row_new w [.int .i64 s.p.n,.int .i64 s.p.ins,.int .i64 s.p.outs,.slice ca s.p.cs.length cc,.int .i64 s.p.an,.slice sa s.p.st.length sc,.int .i64 s.p.rounds,.int .i64 s.tn,.slice ta s.tab.length tc,.slice xa s.ex.length xc] 35
 have t0:=R00.cell (j:=0) rfl
 have t1:=R00.cell (j:=1) rfl
 have t2:=R00.cell (j:=2) rfl
 have t3:=R00.cell (j:=3) rfl
 have t4:=R00.cell (j:=4) rfl
 have t5:=R00.cell (j:=5) rfl
 have t6:=R00.cell (j:=6) rfl
 have t7:=R00.cell (j:=7) rfl
 have t8:=R00.cell (j:=8) rfl
 have t9:=R00.cell (j:=9) rfl
 have l0:=R00.lt
 rw[World.size_alloc]at HL
 clear hc hs ht hx xad hf hLR ex RL he hf' R00
 go_enter Tryz.func12,Tryz.ntmps12
 go_wp2_with fail
 refine (KS.out _ _ _ ex2 HL.out).mono ?_
 rintro _ w1 ⟨_,rfl,hb,hO⟩
 have ex:=ext_trans ex2 hb
 clear KS HL ex2 t0 t1 t2 t3 t4 t5 t6 t7 t8 t9 l0 hb
 rcases hO with ⟨hv,g,la,lc,rfl,hF⟩ | ⟨hv,rfl⟩
 case inr=>
  have RR:=Lib.hid (HE.out hv)
  obtain ⟨t,htt⟩:∃t,t=thE s e f:=⟨_,rfl⟩
  rw[←htt]at RR hv ⊢
  have d0:(t !=0)=true:=by simp[hv]
  clear htt hv
  go_wp2
  go_ret2
  exact .mk ex RR.out
 obtain ⟨hN5,x,y,rfl,rfl,hx,hy,hR⟩:=KB.out hv
 have RR:=Lib.hid hR
 have KL:=Lib.hid ((linked_quiet hF.t hN5 hx hy).mono fun _ _ h=>h.take)
 have d0:((0:Int) !=0)=false:=rfl
 clear hv hR KB HE hF
 go_wp2_with fail
 refine KL.out.mono ?_
 rintro _ w2 ⟨_,rfl,hq,rfl⟩
 have ex3:=ext_trans ex hq.ext
 go_wp2
 go_ret2
 exact .mk ex3 RR.out
end Go.Proofs.YtaijafjfafbcfaaGreat
namespace Go.Proofs.YtaijafjfafbcfaaGreat
open Go.RowKit
attribute [local go_sem ↓] Go.wp_at_zero Go.wp_at_succ
structure ClsM (s:SysF) (q k:Nat) (m:Int→Option Value):Prop where
 hit:∀e,e<k→0≤fvw s e q→m (fvw s e q)=some (.int .i64 (lab (keys (keyN s q) k) (keyN s q e):Int))
 miss:∀x,0≤x→(∀e,e<k→fvw s e q≠x)→m x=none
 neg:∀x,x<0→m x=none∨∃z:Int,m x=some (.int .i64 z)
theorem ClsM.start (s:SysF) (q:Nat):ClsM s q 0 fun _=>none:=⟨fun e he=>absurd he (by omega),fun _ _ _=>rfl,fun _ _=>.inl rfl⟩
theorem ClsM.old {s:SysF} {q k e:Nat} {m:Int→Option Value} (h:ClsM s q k m) (he:e<k) (hl:lkB s q k e=true):ClsM s q (k+1) m:=by
 obtain ⟨h0,h1⟩:=lkB_iff.1 hl
 refine ⟨fun e' he' h2=>?_,fun x hx hn=>h.miss x hx fun e' he'=>hn e' (by omega),h.neg⟩
 by_cases e1:e'=k
 ·subst e1
  rw[(cls_old he hl).1,h1]
  exact h.hit e he (by omega)
 ·rw[lab_keep (by omega)]
  exact h.hit e' (by omega) h2
theorem ClsM.new {s:SysF} {q k:Nat} {m:Int→Option Value} (h:ClsM s q k m) (hn:∀f,f<k→lkB s q k f=false):
  ClsM s q (k+1) fun z=>if z=fvw s k q then some (.int .i64 ((firsts (keys (keyN s q) k)).length:Int)) else m z:=by
 refine ⟨fun e' he' h2=>?_,fun x hx hne=>?_,fun x hx=>?_⟩
 ·by_cases e1:e'=k
  ·subst e1
   rw[(cls_new hn).1]
   simp
  ·have hne:fvw s e' q≠fvw s k q:=fun e2=>by
    have:=hn e' (by omega)
    rw[lkB_iff.2 ⟨by omega,e2.symm⟩]at this;cases this
   rw[lab_keep (by omega)]
   simp only[if_neg hne]
   exact h.hit e' (by omega) h2
 ·show (if x=fvw s k q then _ else m x)=none
  rw[if_neg (fun e:x=fvw s k q=>hne k (by omega) e.symm)]
  exact h.miss x hx fun e he=>hne e (by omega)
 ·by_cases e1:x=fvw s k q
  ·exact .inr ⟨((firsts (keys (keyN s q) k)).length:Int),by show (if x=fvw s k q then _ else m x)=_;rw[if_pos e1]⟩
  ·show (if x=fvw s k q then _ else m x)=none∨∃z:Int,(if x=fvw s k q then _ else m x)=_
   rw[if_neg e1];exact h.neg x hx
theorem ClsM.cases {s:SysF} {q k:Nat} {m:Int→Option Value} (h:ClsM s q k m):
  (0≤fvw s k q∧∃e,e<k∧lkB s q k e=true∧m (fvw s k q)=some (.int .i64 (lab (keys (keyN s q) (k+1)) (keyN s q k):Int))∧firsts (keys (keyN s q) (k+1))=firsts (keys (keyN s q) k))∨
  ((∀f,f<k→lkB s q k f=false)∧(m (fvw s k q)=none∨(fvw s k q<0∧∃z:Int,m (fvw s k q)=some (.int .i64 z)))):=by
 by_cases h0:0≤fvw s k q
 ·by_cases h1:∃e,e<k∧fvw s e q=fvw s k q
  ·obtain ⟨e,he,h2⟩:=h1
   have hl:lkB s q k e=true:=lkB_iff.2 ⟨h0,h2.symm⟩
   refine .inl ⟨h0,e,he,hl,?_,(cls_old he hl).2⟩
   rw[(cls_old he hl).1,←h2]
   exact h.hit e he (by omega)
  ·refine .inr ⟨fun f hf=>?_,.inl (h.miss _ h0 fun e he h2=>h1 ⟨e,he,h2⟩)⟩
   cases hl:lkB s q k f with
   | false=>rfl
   | true=>exact absurd ⟨f,hf,(lkB_iff.1 hl).2.symm⟩ h1
 ·refine .inr ⟨fun f hf=>?_,?_⟩
  ·cases hl:lkB s q k f with
   | false=>rfl
   | true=>exact absurd (lkB_iff.1 hl).1 h0
  ·rcases h.neg (fvw s k q) (by omega) with h1 | h1
   ·exact .inl h1
   ·exact .inr ⟨by omega,h1⟩
theorem classes_calls {B:Nat} {w:World} {g:Nat} {la:Option Addr} {lc:Nat} {s:SysF} {q:Nat} (h:FinP B w g la lc s) (hl:s.ex.length≤4096) (hq:q<s.N) (hw:∀e,e<s.ex.length→WF (fvw s e q)):
  Calls Tryz.prog 38 #[.pointer (some ⟨g,0,none⟩),.int .i64 q] w (Post w fun w' r=>Ints (fun b=>w.heap.size≤b) w' r (clsL s q)):=by
 have HF:=Lib.hid h
 have HW:=Lib.hid hw
 have x1:=h.x1
 have lg:=h.row.lt
 have hmm:=@run_makeMap Tryz.prog
 have hM0:=Lib.hid (MapV.made keyInt w)
 have hb0:=ext_alloc w (.map #[] 0)
 have HLW:Hid (∀x∈clsL s q,WF x):=Lib.hid (labs_wf (by simp[keys];omega))
 clear h hw
 go_enter Tryz.func38,Tryz.ntmps38
 go_wp2
 clear x1 lg hmm
 go_loopw [6,7,9,10,11,12,19] (fun ov nv _ _ _ _ i wr=>∃(k:Nat) (oa:Option Addr) (oc:Nat) (m:Int→Option Value) (n:Nat),k≤s.ex.length∧i=.int .i64 k∧ov=.slice oa k oc∧nv=.int .i64 ((firsts (keys (keyN s q) k)).length:Int)∧Below w.heap.size w wr∧Hid (MapV keyInt wr w.heap.size m n)∧n≤k∧Hid (ClsM s q k m)∧Hid (wr.ownsRow (w.heap.size+1) 3 1 (.slice oa k oc) k ((labs (keys (keyN s q) k)).map (Value.int .i64)))) (fun _ _ _ _ _ _ i _=>s.ex.length - (intOf i).toNat)
 case atStart=>exact ⟨0,none,0,_,0,Nat.zero_le _,rfl,rfl,rfl,hb0,hM0,Nat.le_refl _,Lib.hid (ClsM.start s q),Lib.hid (World.ownsRow_nil _ _ _ _)⟩
 case round=>
  clear hb0 hM0
  obtain ⟨k,oa,oc,m,n,hk,rfl,rfl,rfl,hb,HM,hnk,HI,HO⟩:=hrel
  by_cases hlt:k<s.ex.length
  case neg=>
   obtain rfl:k=s.ex.length:=by omega
   have HR:=Lib.hid ((Ints.of_own HO.out HLW.out).mono (S':=fun b=>w.heap.size≤b) fun b hb=>by omega)
   have hR:Ints (fun b=>w.heap.size≤b) wr (.slice oa s.ex.length oc) (clsL s q):=HR.out
   have HR:=Lib.hid hR
   clear hR
   go_wp2
   go_ret
   exact .mk hb HR.out
  obtain ⟨q1,ea,ec,ce,ie⟩:=(HF.out.ext hb).t.at hlt
  have q2:=ie.idx (k:=q) (by rw[fvL_len];exact hq)
  have c2:=ie.cellN (k:=q) (by rw[fvL_len];exact hq)
  rw[fvL_at s k hq]at c2
  have b1:=World.block_lt_of_cell? _ _ ce
  have b2:=World.block_lt_of_cell? _ _ c2
  have HWX:=Lib.hid (HW.out k hlt)
  have HC:=Lib.hid HI.out.cases
  have HST:=Lib.hid (cls_step s q k)
  have hfl:=length_firsts_le (keys (keyN s q) k)
  rw[show (keys (keyN s q) k).length=k by simp[keys]]at hfl
  obtain ⟨fk,hfk⟩:∃fk,fk=(firsts (keys (keyN s q) k)).length:=⟨_,rfl⟩
  obtain ⟨x,hx0⟩:∃x,x=fvw s k q:=⟨_,rfl⟩
  rw[←hx0]at c2 HWX HC
  rw[←hfk]at hfl ⊢
  have hsz:=hb.size
  have hml:=HM.out.lt
  rcases HC.out with ⟨h0,e,he,hlk,hhit,hff⟩ | ⟨hn,hmiss⟩
  ·have d0:decide (x<0)=false:=decide_eq_false (by omega)
   have HHIT:=Lib.hid hhit
   have HFF:Hid ((firsts (keys (keyN s q) (k+1))).length=fk):=Lib.hid (by rw[hff,hfk])
   have HI5:=Lib.hid (HI.out.old he hlk)
   obtain ⟨lb,hlb⟩:∃lb,lb=lab (keys (keyN s q) (k+1)) (keyN s q k):=⟨_,rfl⟩
   rw[←hlb]at HHIT HST
   clear HC h0 he hlk hhit hff hfk hx0 ie hlb
   go_wp2_with (first
    | (at_lookup;refine wpList_hit rfl _ _ 107 rfl 3 Tryz.underlying107 (.int .i64 0) (zero_int _) rfl HM.out x rfl HWX.out _ HHIT.out ?_)
    | (at_builtin;refine wpList_push rfl (.tmp 45) (.tmp 47) 44 rfl 3 _ 8 Tryz.underlying44 info_int rfl (w.heap.size+1) _ _ _ rfl HO.out (.int .i64 lb) rfl rfl (by omega) (by omega) (by omega) ?_;intro g' c' w5 hown5 hbel5 hag5 hat5))
   have HO5:Hid (w5.ownsRow (w.heap.size+1) 3 1 (.slice (some ⟨g',0,none⟩) (k+1) c') (k+1) ((labs (keys (keyN s q) (k+1))).map (Value.int .i64))):=Lib.hid (by rw[HST.out];simpa using hown5)
   have hb5:=hb.trans (hbel5.mono (Nat.le_succ _))
   have HM5:=Lib.hid (HM.out.agree (S:=fun b=>b=w.heap.size) (.of_below hbel5 fun b hb _=>by omega) rfl)
   clear hown5 hbel5 hag5 hat5
   go_wp2
   go_roundw
   case rel=>exact ⟨k+1,_,_,m,n,by omega,by go_num,rfl,int_eq (by rw[HFF.out]),hb5,HM5,by omega,HI5,HO5⟩
   case measure=>simp[intOf];omega
  ·have HNW:=Lib.hid (cls_new hn)
   rw[←hfk]at HNW
   rcases hmiss with hmiss | ⟨h0,z,hhit⟩
   ·have HMISS:=Lib.hid hmiss
    clear HC hmiss ie
    replace hn:=Lib.hid hn
    replace hx0:=Lib.hid hx0
    replace hfk:=Lib.hid hfk
    go_wp2_with (first
     | (at_lookup;refine wpList_miss rfl _ _ 107 rfl 3 Tryz.underlying107 (.int .i64 0) (zero_int _) rfl HM.out x rfl HWX.out HMISS.out ?_)
     | (at_mapUpdate;refine wpList_upd rfl _ _ _ 107 rfl 3 Tryz.underlying107 rfl HM.out (by unfold maxLen;omega) x rfl HWX.out (.int .i64 (fk:Int)) rfl ?_;intro w2 hM2 hg2;have HO2:=Lib.hid (owns_agree (S:=fun b=>b≠w.heap.size) HO.out (.of_grown hg2 (fun b hb e=>by cases e;exact hb rfl)) (fun j hj=>by have:=(HO.out.lt j hj).1;show j≠_;omega));have hs2:=hg2.size)
     | (at_builtin;refine wpList_push rfl (.tmp 45) (.tmp 47) 44 rfl 3 _ 8 Tryz.underlying44 info_int rfl (w.heap.size+1) _ _ _ rfl HO2.out (.int .i64 (fk:Int)) rfl rfl (by omega) (by omega) (by omega) ?_;intro g' c' w5 hown5 hbel5 hag5 hat5))
    have hn:=hn.out
    have hx0:=hx0.out
    have hfk:=hfk.out
    have HO5:Hid (w5.ownsRow (w.heap.size+1) 3 1 (.slice (some ⟨g',0,none⟩) (k+1) c') (k+1) ((labs (keys (keyN s q) (k+1))).map (Value.int .i64))):=Lib.hid (by rw[HST.out,HNW.out.1];simpa using hown5)
    have hb2:=hb.grown hg2 hb.size (fun j hj=>by cases hj;exact Nat.le_refl _)
    have hb5:=hb2.trans (hbel5.mono (Nat.le_succ _))
    have HM5:=Lib.hid (hM2.agree (S:=fun b=>b=w.heap.size) (.of_below hbel5 fun b hb _=>by omega) rfl)
    have HI5:=Lib.hid (HI.out.new hn)
    rw[←hx0,←hfk]at HI5
    have HNF:=Lib.hid HNW.out.2
    have hn5:(if (m x).isSome then n else n+1)≤k+1:=by split<;>omega
    clear hown5 hbel5 hag5 hat5 hM2 hg2 HO2 hb2 hs2
    go_wp2
    go_roundw
    case rel=>exact ⟨k+1,_,_,_,_,by omega,by go_num,rfl,int_eq (by rw[HNF.out];simp),hb5,HM5,hn5,HI5,HO5⟩
    case measure=>simp[intOf];omega
   ·have HHIT:=Lib.hid hhit
    have d0:decide (x<0)=true:=decide_eq_true h0
    clear HC hhit ie h0
    replace hn:=Lib.hid hn
    replace hx0:=Lib.hid hx0
    replace hfk:=Lib.hid hfk
    go_wp2_with (first
     | (at_lookup;refine wpList_hit rfl _ _ 107 rfl 3 Tryz.underlying107 (.int .i64 0) (zero_int _) rfl HM.out x rfl HWX.out _ HHIT.out ?_)
     | (at_mapUpdate;refine wpList_upd rfl _ _ _ 107 rfl 3 Tryz.underlying107 rfl HM.out (by unfold maxLen;omega) x rfl HWX.out (.int .i64 (fk:Int)) rfl ?_;intro w2 hM2 hg2;have HO2:=Lib.hid (owns_agree (S:=fun b=>b≠w.heap.size) HO.out (.of_grown hg2 (fun b hb e=>by cases e;exact hb rfl)) (fun j hj=>by have:=(HO.out.lt j hj).1;show j≠_;omega));have hs2:=hg2.size)
     | (at_builtin;refine wpList_push rfl (.tmp 45) (.tmp 47) 44 rfl 3 _ 8 Tryz.underlying44 info_int rfl (w.heap.size+1) _ _ _ rfl HO2.out (.int .i64 (fk:Int)) rfl rfl (by omega) (by omega) (by omega) ?_;intro g' c' w5 hown5 hbel5 hag5 hat5))
    have hn:=hn.out
    have hx0:=hx0.out
    have hfk:=hfk.out
    have HO5:Hid (w5.ownsRow (w.heap.size+1) 3 1 (.slice (some ⟨g',0,none⟩) (k+1) c') (k+1) ((labs (keys (keyN s q) (k+1))).map (Value.int .i64))):=Lib.hid (by rw[HST.out,HNW.out.1];simpa using hown5)
    have hb2:=hb.grown hg2 hb.size (fun j hj=>by cases hj;exact Nat.le_refl _)
    have hb5:=hb2.trans (hbel5.mono (Nat.le_succ _))
    have HM5:=Lib.hid (hM2.agree (S:=fun b=>b=w.heap.size) (.of_below hbel5 fun b hb _=>by omega) rfl)
    have HI5:=Lib.hid (HI.out.new hn)
    rw[←hx0,←hfk]at HI5
    have HNF:=Lib.hid HNW.out.2
    have hn5:(if (m x).isSome then n else n+1)≤k+1:=by split<;>omega
    clear hown5 hbel5 hag5 hat5 hM2 hg2 HO2 hb2 hs2
    go_wp2
    go_roundw
    case rel=>exact ⟨k+1,_,_,_,_,by omega,by go_num,rfl,int_eq (by rw[HNF.out];simp),hb5,HM5,hn5,HI5,HO5⟩
    case measure=>simp[intOf];omega
theorem fvw_wf {S:Nat→Prop} {w:World} {v:Value} {s:SysF} (h:SysV S w v s) (hg:GoodS s s.N s.K) {q:Nat} (hq:q<s.N):∀e,e<s.ex.length→WF (fvw s e q):=fun e he=>by
 rw[←fvL_at s e hq];exact nth_wf (fvL_wf hg h he) q
theorem pClasses_calls {S:Nat→Prop} {w:World} {v:Value} {s:SysF} (q:Int) (h:SysV S w v s) (hf:PFew s.p):
  Calls Tryz.prog 14 #[v,.int .i64 q] w (Post w (ClsR w.heap.size s q)):=by
 have KO:Hid (∀W,Below w.heap.size w W→Calls Tryz.prog 37 #[v] W (Post W (OfR W.heap.size s))):=Lib.hid fun W hW=>fof_calls (h.ext hW) hf
 have KC:Hid (verE s=0→s.ex.length≤4096∧∀x:Nat,x<s.N→∀e,e<s.ex.length→WF (fvw s e x)):=Lib.hid fun h0=>⟨ex_le h0 (good_sys h0 h.moves8),fun x hx=>fvw_wf h (good_sys h0 h.moves8) hx⟩
 have HCE:Hid (clE s q=if verE s=0 then (if q<0∨(s.N:Int)≤q then 2 else 0) else verE s):=Lib.hid rfl
 have HE:Hid (∀w',clE s q≠0→ClsR w.heap.size s q w' (.tuple #[.slice none 0 0,.int .i64 (clE s q)])):=Lib.hid fun w' h=>.inr ⟨h,rfl⟩
 have HK:Hid (clE s q=0→∀(x:Nat) w' u,q=x→Ints (fun b=>w.heap.size≤b) w' u (clsL s x)→ClsR w.heap.size s q w' (.tuple #[u,.int .i64 0])):=Lib.hid fun h0 x w' u hx hu=>by
  subst hx;exact cls_ok h0 hu
 obtain ⟨ce,hce⟩:∃t,t=clE s q:=⟨_,rfl⟩
 rw[←hce]at HCE HE HK
 obtain ⟨LR,hLR⟩:∃LR,LR=ClsR w.heap.size s q:=⟨_,rfl⟩
 rw[←hLR]at HE HK ⊢
 obtain ⟨vc,vs,vt,vx,rfl,hc,hs,ht,hx⟩:=h
 obtain ⟨ca,cc,rfl,_⟩:=hc.form
 obtain ⟨sa,sc,rfl,_⟩:=hs.form
 obtain ⟨ta,tc,rfl,_⟩:=ht.form
 obtain ⟨xa,xc,rfl,xad,_⟩:=hx.form2
 have ex:=ext_alloc w (.cells #[.int .i64 s.p.n,.int .i64 s.p.ins,.int .i64 s.p.outs,.slice ca s.p.cs.length cc,.int .i64 s.p.an,.slice sa s.p.st.length sc,.int .i64 s.p.rounds,.int .i64 s.tn,.slice ta s.tab.length tc,.slice xa s.ex.length xc] 35)
 have R0:=row_new w [.int .i64 s.p.n,.int .i64 s.p.ins,.int .i64 s.p.outs,.slice ca s.p.cs.length cc,.int .i64 s.p.an,.slice sa s.p.st.length sc,.int .i64 s.p.rounds,.int .i64 s.tn,.slice ta s.tab.length tc,.slice xa s.ex.length xc] 35
 have t0:=R0.cell (j:=0) rfl
 have t1:=R0.cell (j:=1) rfl
 have t2:=R0.cell (j:=2) rfl
 have t3:=R0.cell (j:=3) rfl
 have t4:=R0.cell (j:=4) rfl
 have t5:=R0.cell (j:=5) rfl
 have t6:=R0.cell (j:=6) rfl
 have t7:=R0.cell (j:=7) rfl
 have t8:=R0.cell (j:=8) rfl
 have t9:=R0.cell (j:=9) rfl
 have l0:=R0.lt
 clear hc hs ht hx xad hf hLR hce
 go_enter Tryz.func14,Tryz.ntmps14
 go_wp2_with fail
 refine (KO.out _ ex).mono ?_
 rintro _ w1 ⟨_,rfl,hb,hO⟩
 replace R0:=R0.ext hb
 replace ex:=ext_trans ex hb
 clear hb KO R0 t0 t1 t2 t3 t4 t5 t6 t7 t8 t9 l0
 rcases hO with ⟨hv,g,la,lc,rfl,hF⟩ | ⟨hv,rfl⟩
 case inr=>
  have h2:=HCE.out.trans (if_neg hv)
  have RR:=Lib.hid (HE.out w1 (by rw[h2];exact hv))
  rw[h2]at RR
  obtain ⟨t,htt⟩:∃t,t=verE s:=⟨_,rfl⟩
  rw[←htt]at RR hv ⊢
  have d0:(t !=0)=true:=by simp[hv]
  clear htt hv h2 HCE HE HK KC
  go_wp2
  go_ret2
  exact .mk ex RR.out
 have HCE2:=Lib.hid (HCE.out.trans (if_pos hv))
 obtain ⟨hxl,hwf⟩:=KC.out hv
 have HWF:=Lib.hid hwf
 have HF:=Lib.hid hF
 have x0:=hF.x0
 have lg:=hF.row.lt
 have d0:((0:Int) !=0)=false:=rfl
 clear hv hF KC HCE hwf
 by_cases h1:q<0
 ·have d1:decide (q<0)=true:=decide_eq_true h1
  have h2:=HCE2.out.trans (if_pos (.inl h1))
  have RR:=Lib.hid (HE.out w1 (by rw[h2];decide))
  rw[h2]at RR
  clear h1 h2
  go_wp2
  go_ret2
  exact .mk ex RR.out
 have d1:decide (q<0)=false:=decide_eq_false h1
 by_cases h3:(s.N:Int)≤q
 ·have d2:decide ((s.N:Int)≤q)=true:=decide_eq_true h3
  have h2:=HCE2.out.trans (if_pos (.inr h3))
  have RR:=Lib.hid (HE.out w1 (by rw[h2];decide))
  rw[h2]at RR
  clear h1 h2
  go_wp2
  go_ret2
  exact .mk ex RR.out
 have d2:decide ((s.N:Int)≤q)=false:=decide_eq_false h3
 have h2:=HCE2.out.trans (if_neg (fun h=>by rcases h with h | h;exact h1 h;exact h3 h))
 have HK2:=Lib.hid (HK.out h2)
 obtain ⟨x,hqx⟩:∃x:Nat,q=x:=⟨q.toNat,by omega⟩
 have KC3:=Lib.hid (classes_calls HF.out hxl (show x<s.N by omega) (HWF.out x (by omega)))
 have HQX:=Lib.hid hqx
 have KC4:Hid (Calls Tryz.prog 38 #[.pointer (some ⟨g,0,none⟩),.int .i64 q] w1 (Post w1 fun w' r=>Ints (fun b=>w1.heap.size≤b) w' r (clsL s x))):=Lib.hid (by rw[HQX.out];exact KC3.out)
 clear hqx h2 KC3
 go_upto_region 6 with fail
 clear h1 h3 d0 d1 d2
 go_wp2_with fail
 refine KC4.out.mono ?_
 rintro _ w2 ⟨u,rfl,hb,hi⟩
 have ex2:=ext_trans ex hb
 have hsz:=ex.size
 have RR:=Lib.hid (HK2.out x w2 u HQX.out (hi.mono fun b hb=>by omega))
 clear hb hi ex hsz KC4 x0 lg
 go_wp2
 go_ret2
 exact .mk ex2 RR.out
theorem join_ok {s:SysF} (h:s.ex.length≤4096) (p:Nat):joinR (cmpL s p) (clsL s (p+1))=(cmpL s (p+1),0):=by
 unfold joinR
 rw[if_pos (Pair.both ⟨cmpL_good (by omega) p,clsL_good (p+1) (by omega),by rw[clsL_len,cmpL_len]⟩)];rfl
theorem pComps_calls {S:Nat→Prop} {w:World} {v:Value} {s:SysF} (h:SysV S w v s) (hf:PFew s.p):
  Calls Tryz.prog 17 #[v] w (Post w (CmpR w.heap.size s)):=by
 have KO:Hid (∀W,Below w.heap.size w W→Calls Tryz.prog 37 #[v] W (Post W (OfR W.heap.size s))):=Lib.hid fun W hW=>fof_calls (h.ext hW) hf
 have KC:Hid (verE s=0→s.ex.length≤4096∧1≤s.N∧s.N≤5∧∀x:Nat,x<s.N→∀e,e<s.ex.length→WF (fvw s e x)):=Lib.hid fun h0=>⟨ex_le h0 (good_sys h0 h.moves8),(good_sys h0 h.moves8).pok.n1.1,(good_sys h0 h.moves8).pok.n1.2,fun x hx=>fvw_wf h (good_sys h0 h.moves8) hx⟩
 have HE:Hid (∀w',verE s≠0→CmpR w.heap.size s w' (.tuple #[.slice none 0 0,.int .i64 (verE s)])):=Lib.hid fun w' h=>.inr ⟨h,rfl⟩
 have HK:Hid (verE s=0→∀w' u,Ints (fun b=>w.heap.size≤b) w' u (cmpL s (s.N - 1))→CmpR w.heap.size s w' (.tuple #[u,.int .i64 0])):=Lib.hid fun h0 w' u hu=>.inl ⟨h0,u,rfl,hu⟩
 obtain ⟨LR,hLR⟩:∃LR,LR=CmpR w.heap.size s:=⟨_,rfl⟩
 rw[←hLR]at HE HK ⊢
 obtain ⟨vc,vs,vt,vx,rfl,hc,hs,ht,hx⟩:=h
 obtain ⟨ca,cc,rfl,_⟩:=hc.form
 obtain ⟨sa,sc,rfl,_⟩:=hs.form
 obtain ⟨ta,tc,rfl,_⟩:=ht.form
 obtain ⟨xa,xc,rfl,xad,_⟩:=hx.form2
 have ex:=ext_alloc w (.cells #[.int .i64 s.p.n,.int .i64 s.p.ins,.int .i64 s.p.outs,.slice ca s.p.cs.length cc,.int .i64 s.p.an,.slice sa s.p.st.length sc,.int .i64 s.p.rounds,.int .i64 s.tn,.slice ta s.tab.length tc,.slice xa s.ex.length xc] 35)
 have R0:=row_new w [.int .i64 s.p.n,.int .i64 s.p.ins,.int .i64 s.p.outs,.slice ca s.p.cs.length cc,.int .i64 s.p.an,.slice sa s.p.st.length sc,.int .i64 s.p.rounds,.int .i64 s.tn,.slice ta s.tab.length tc,.slice xa s.ex.length xc] 35
 have t0:=R0.cell (j:=0) rfl
 have t1:=R0.cell (j:=1) rfl
 have t2:=R0.cell (j:=2) rfl
 have t3:=R0.cell (j:=3) rfl
 have t4:=R0.cell (j:=4) rfl
 have t5:=R0.cell (j:=5) rfl
 have t6:=R0.cell (j:=6) rfl
 have t7:=R0.cell (j:=7) rfl
 have t8:=R0.cell (j:=8) rfl
 have t9:=R0.cell (j:=9) rfl
 have l0:=R0.lt
 clear hc hs ht hx xad hf hLR
 go_enter Tryz.func17,Tryz.ntmps17
 go_wp2_with fail
 refine (KO.out _ ex).mono ?_
 rintro _ w1 ⟨_,rfl,hb,hO⟩
 replace R0:=R0.ext hb
 replace ex:=ext_trans ex hb
 clear hb KO R0 t0 t1 t2 t3 t4 t5 t6 t7 t8 t9 l0
 rcases hO with ⟨hv,g,la,lc,rfl,hF⟩ | ⟨hv,rfl⟩
 case inr=>
  have RR:=Lib.hid (HE.out w1 hv)
  obtain ⟨t,htt⟩:∃t,t=verE s:=⟨_,rfl⟩
  rw[←htt]at RR hv ⊢
  have d0:(t !=0)=true:=by simp[hv]
  clear htt hv HE HK KC
  go_wp2
  go_ret2
  exact .mk ex RR.out
 have HK2:=Lib.hid (HK.out hv)
 obtain ⟨hxl,hN1,hN5,hwf⟩:=KC.out hv
 have HWF:=Lib.hid hwf
 have HF:=Lib.hid hF
 have HJ:=Lib.hid (join_ok (s:=s) hxl)
 have HC0:Hid (clsL s 0=cmpL s 0):=Lib.hid rfl
 have KC0:Hid (Calls Tryz.prog 38 #[.pointer (some ⟨g,0,none⟩),.int .i64 0] w1 (Post w1 fun w' r=>Ints (fun b=>w1.heap.size≤b) w' r (cmpL s 0))):=Lib.hid (classes_calls hF hxl (q:=0) hN1 (hwf 0 hN1))
 have KCL:Hid (∀x:Nat,x<s.N→∀W,Below w1.heap.size w1 W→Calls Tryz.prog 38 #[.pointer (some ⟨g,0,none⟩),.int .i64 x] W (Post W fun w' r=>Ints (fun b=>W.heap.size≤b) w' r (clsL s x))):=Lib.hid fun x hx W hW=>classes_calls (hF.ext hW) hxl hx (hwf x hx)
 have d0:((0:Int) !=0)=false:=rfl
 have hsz:=ex.size
 clear hv hF KC hwf HE HK
 go_wp2_with fail
 refine KC0.out.mono ?_
 rintro _ w2 ⟨u,rfl,hb,hi⟩
 have HI0:Hid (Ints (fun b=>w.heap.size≤b) w2 u (cmpL s 0)):=Lib.hid (hi.mono fun b hb=>by omega)
 have HEX:=Lib.hid ex
 have hb2:=hb
 clear hb hi KC0 ex
 go_wp2
 go_loopw [5,6,7] (fun ev o i wr=>∃k:Nat,1≤k∧k≤s.N∧ev=.int .i64 0∧i=.int .i64 k∧Below w1.heap.size w1 wr∧Hid (Ints (fun b=>w.heap.size≤b) wr o (cmpL s (k - 1)))) (fun _ _ i _=>s.N - (intOf i).toNat)
 case atStart=>exact ⟨1,Nat.le_refl _,hN1,rfl,rfl,hb2,HI0⟩
 case round=>
  clear hb2 HI0
  obtain ⟨k,hk1,hk,rfl,rfl,hb,HO⟩:=hrel
  have x0:=(HF.out.ext hb).x0
  have lg:=(HF.out.ext hb).row.lt
  have hHO:=HO.out
  obtain ⟨oa,oc,rfl,_⟩:=hHO.form
  clear hHO
  by_cases hlt:k<s.N
  case neg=>
   obtain rfl:k=s.N:=by omega
   have RR:=Lib.hid (HK2.out wr _ HO.out)
   have ex:=ext_trans HEX.out hb
   go_wp2
   go_ret2
   exact .mk ex RR.out
  have KC2:=Lib.hid (KCL.out k hlt wr hb)
  obtain ⟨m,hm⟩:∃m,k=m+1:=⟨k - 1,by omega⟩
  have hm2:k - 1=m:=by omega
  rw[hm2]at HO ⊢
  have HJM:Hid (joinR (cmpL s m) (clsL s k)=(cmpL s k,0)):=Lib.hid (by rw[hm];exact HJ.out m)
  clear hm hm2
  go_wp2_with fail
  refine KC2.out.mono ?_
  rintro _ w3 ⟨u1,rfl,hb3,hi⟩
  obtain ⟨ia,ic,rfl,_⟩:=hi.form
  have hb':=ext_trans hb hb3
  have KG:=Lib.hid (join_calls (HO.out.ext hb3) hi)
  rw[HJM.out]at KG
  have hsz2:=hb'.size
  clear hi hb hb3 HO KC2 x0 lg
  go_wp2_with fail
  refine KG.out.mono ?_
  rintro _ w4 ⟨_,rfl,hb4,gv,rfl,hi⟩
  have hb5:=ext_trans hb' hb4
  have HO3:Hid (Ints (fun b=>w.heap.size≤b) w4 gv (cmpL s (k+1 - 1))):=Lib.hid (hi.mono fun b hb=>by omega)
  clear hi hb' hb4 KG hsz2
  go_wp2
  go_roundw
  case rel=>exact ⟨k+1,by omega,by omega,rfl,by go_num,hb5,HO3⟩
  case measure=>simp[intOf];omega
end Go.Proofs.YtaijafjfafbcfaaGreat
namespace Go.Proofs.YtaijafjfafbcfaaGreat
open Go.RowKit Go.Shelf
attribute [local go_sem ↓] Go.wp_at_zero Go.wp_at_succ
theorem grownBy_drewN (w:World) (n:Nat):w.grownBy (w.drewN n) none:=⟨rfl,rfl,rfl,Nat.le_refl _,fun _ _ _=>rfl⟩
theorem QW.grown {w w':World} (h:QW w w'):w.grownBy w' none:=by obtain ⟨n,rfl⟩:=h;exact grownBy_drewN w n
theorem abides_q {β:Type} {B:Nat} {J:β→World→Prop} (hJ:AbidesFrom B J) {s:β} {W W':World} (h:J s W) (hq:QW W W'):J s W':=hJ s W W' none h hq.grown (fun r e=>by cases e)
structure TimV (w:World) (S S2:Nat→Prop) (xa:Option Addr) (xc:Nat) (xs:List ExecD) (e N K:Nat) (a2:Option Addr) (c2:Nat) (ch:List Int):Prop where
 ex:Sl kExec S w (.slice xa xs.length xc) xs
 lt:e<xs.length
 len:(nthX xs e).vs.length=K+1
 rows:∀k,k≤K→(nthL (nthX xs e).vs k).length=N
 vw:∀k,k≤K→∀q,q<N→∃z:Nat,z<ch.length∧nth (nthL (nthX xs e).vs k) q=z
 rule:Ints S2 w (.slice a2 ch.length c2) ch
 N5:N≤5
 K6:K≤6
end Go.Proofs.YtaijafjfafbcfaaGreat
