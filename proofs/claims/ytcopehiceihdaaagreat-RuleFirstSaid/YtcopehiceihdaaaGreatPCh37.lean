/- Part of the proof that the laws of chapter 45 answer true for every input. -/
import Derived.Test.YtcopehiceihdaaaGreatPCh35
import Derived.Test.YtcopehiceihdaaaGreatPCh36
import Derived.Test.YtcopehiceihdaaaGreatPCh13
import Derived.Test.YtcopehiceihdaaaGreatPCh14
set_option linter.unusedSimpArgs false
set_option linter.unnecessarySimpa false
set_option linter.unusedVariables false
set_option maxRecDepth 100000
set_option maxHeartbeats 40000000
namespace Go.Proofs.YtcopehiceihdaaaGreat
open Go.RowKit Go.Shelf
attribute [local go_sem ↓] Go.wp_at_zero Go.wp_at_succ
attribute [local go_sem] Oper.semAt_some
theorem oblB_not {s:SysF} {e q f:Nat} (hf:fltyW (nthX s.ex e).word=f) (hq:q<s.N):oblB s e q= !f.testBit q:=by
  unfold oblB maskW
  rw[hf,Int.toNat_natCast,testBit_without,Nat.testBit_two_pow_sub_one]
  simp[hq]
def meaL (ob:Nat→Bool) (rd:Nat→Int) (l:List Nat) (o:Option (Int×Int)):Option (Int×Int):=l.foldl (fun o q=>o.bind (stepM (ob q) (rd q))) o
theorem meaL_snoc (ob:Nat→Bool) (rd:Nat→Int) (l:List Nat) (q:Nat) (o:Option (Int×Int)):meaL ob rd (l++[q]) o=(meaL ob rd l o).bind (stepM (ob q) (rd q)):=by unfold meaL;rw[List.foldl_append];rfl
theorem meaL_range (ob:Nat→Bool) (rd:Nat→Int) (o:Option (Int×Int)):∀j,meaL ob rd (List.range j) o=o.bind (meaP ob rd j)
  | 0=>by cases o<;>rfl
  | j+1=>by
    rw[List.range_succ,meaL_snoc,meaL_range ob rd o j]
    cases o<;>rfl
theorem meaL_prefix {ob:Nat→Bool} {rd:Nat→Int} {l:List Nat} {N:Nat} {o:Option (Int×Int)} (hl:l<+:List.range N) (h:meaL ob rd l o=none):o.bind (meaP ob rd N)=none:=by
  rw[←meaL_range]
  obtain ⟨r,hr⟩:=hl
  rw[←hr]
  unfold meaL at h ⊢
  rw[List.foldl_append,h]
  clear hr h
  induction r with
  | nil=>rfl
  | cons a r ih=>exact ih
theorem pmea_calls {S S2:Nat→Prop} {w:World} {v vch:Value} {s:SysF} {ch:List Int} (h:SysV S w v s) (hf:PFew s.p) (h2:Ints S2 w vch ch):
    Calls Tryz.prog 21 #[v,.agg #[vch]] w (Post w fun _ r=>r=measV (measT s ch)):=by
  have KV:Hid (∀W,Below w.heap.size w W→Calls Tryz.prog 16 #[v,.agg #[vch]] W (Post W fun _ r=>r=.int .i64 (ruleE s ch))):=Lib.hid fun W hW=>pcheck_calls (h.ext hW) hf (h2.ext hW)
  have h8:=h.moves8
  obtain ⟨vc,vs,vt,vx,rfl,hc,hs,ht,hx⟩:=h
  obtain ⟨ca,cc,rfl,_⟩:=hc.form
  obtain ⟨sa,sc,rfl,_⟩:=hs.form
  obtain ⟨ta,tc,rfl,_⟩:=ht.form
  obtain ⟨xa,xc,rfl,xad,_⟩:=hx.form2
  obtain ⟨a2,c2,rfl,_⟩:=h2.form
  have hfew:=hx.few
  have KT:Hid (ruleE s ch=0→s.p.n=(s.N:Int)∧s.K≤6∧s.N≤5∧(∀e,e<s.ex.length→TimV w (fun b=>S b∧b<w.heap.size) (fun b=>S2 b∧b<w.heap.size) xa xc s.ex e s.N s.K a2 c2 ch)∧∀e,e<s.ex.length→∃f:Nat,fltyW (nthX s.ex e).word=f∧f<2 ^ s.N):=Lib.hid fun h0=>by
    obtain ⟨j1,j2,_⟩:=ruleE_ok h0
    have hg:=good_sys j1 h8
    exact ⟨hg.pok.n,hg.K6,by have:=hg.pok.n1.2;omega,fun e he=>SysV.tim (ca:=ca) (sa:=sa) (ta:=ta) (cc:=cc) (sc:=sc) (tc:=tc) hg hx h2 j2 he,fun e he=>hg.flty he⟩
  have ex:=ext_alloc' (ext_alloc' (ext_alloc' (ext_alloc' (ext_alloc w (.cells #[.int .i64 s.p.n,.int .i64 s.p.ins,.int .i64 s.p.outs,.slice ca s.p.cs.length cc,.int .i64 s.p.an,.slice sa s.p.st.length sc,.int .i64 s.p.rounds,.int .i64 s.tn,.slice ta s.tab.length tc,.slice xa s.ex.length xc] 35)) (.cells #[.slice a2 ch.length c2] 38)) (.cells #[.int .i64 0] 3)) (.cells #[.int .i64 0] 3)) (.cells #[.int .i64 0] 42)
  have R0:=((((row_new w [.int .i64 s.p.n,.int .i64 s.p.ins,.int .i64 s.p.outs,.slice ca s.p.cs.length cc,.int .i64 s.p.an,.slice sa s.p.st.length sc,.int .i64 s.p.rounds,.int .i64 s.tn,.slice ta s.tab.length tc,.slice xa s.ex.length xc] 35).alloc (.cells #[.slice a2 ch.length c2] 38)).alloc (.cells #[.int .i64 0] 3)).alloc (.cells #[.int .i64 0] 3)).alloc (.cells #[.int .i64 0] 42)
  have R1:=(((row_new (w.alloc (.cells #[.int .i64 s.p.n,.int .i64 s.p.ins,.int .i64 s.p.outs,.slice ca s.p.cs.length cc,.int .i64 s.p.an,.slice sa s.p.st.length sc,.int .i64 s.p.rounds,.int .i64 s.tn,.slice ta s.tab.length tc,.slice xa s.ex.length xc] 35)) [.slice a2 ch.length c2] 38).alloc (.cells #[.int .i64 0] 3)).alloc (.cells #[.int .i64 0] 3)).alloc (.cells #[.int .i64 0] 42)
  have M4:=((row_new ((w.alloc (.cells #[.int .i64 s.p.n,.int .i64 s.p.ins,.int .i64 s.p.outs,.slice ca s.p.cs.length cc,.int .i64 s.p.an,.slice sa s.p.st.length sc,.int .i64 s.p.rounds,.int .i64 s.tn,.slice ta s.tab.length tc,.slice xa s.ex.length xc] 35)).alloc (.cells #[.slice a2 ch.length c2] 38)) [.int .i64 0] 3).alloc (.cells #[.int .i64 0] 3)).alloc (.cells #[.int .i64 0] 42)
  have M5:=(row_new (((w.alloc (.cells #[.int .i64 s.p.n,.int .i64 s.p.ins,.int .i64 s.p.outs,.slice ca s.p.cs.length cc,.int .i64 s.p.an,.slice sa s.p.st.length sc,.int .i64 s.p.rounds,.int .i64 s.tn,.slice ta s.tab.length tc,.slice xa s.ex.length xc] 35)).alloc (.cells #[.slice a2 ch.length c2] 38)).alloc (.cells #[.int .i64 0] 3)) [.int .i64 0] 3).alloc (.cells #[.int .i64 0] 42)
  have M6:=row_new ((((w.alloc (.cells #[.int .i64 s.p.n,.int .i64 s.p.ins,.int .i64 s.p.outs,.slice ca s.p.cs.length cc,.int .i64 s.p.an,.slice sa s.p.st.length sc,.int .i64 s.p.rounds,.int .i64 s.tn,.slice ta s.tab.length tc,.slice xa s.ex.length xc] 35)).alloc (.cells #[.slice a2 ch.length c2] 38)).alloc (.cells #[.int .i64 0] 3)).alloc (.cells #[.int .i64 0] 3)) [.int .i64 0] 42
  simp only[World.size_alloc]at R1 M4 M5 M6
  have t0:=R0.cell (j:=0) rfl
  have t1:=R0.cell (j:=1) rfl
  have t2:=R0.cell (j:=2) rfl
  have t3:=R0.cell (j:=3) rfl
  have t4:=R0.cell (j:=4) rfl
  have t5:=R0.cell (j:=5) rfl
  have t6:=R0.cell (j:=6) rfl
  have t7:=R0.cell (j:=7) rfl
  have t8:=R0.cell (j:=8) rfl
  have t9:=R0.cell (j:=9) rfl
  have r1:=R1.cell (j:=0) rfl
  have l1:=R1.lt
  have l0:=R0.lt
  have HD:Hid ((ruleE s ch=0→measT s ch=match meaS s ch with | some ab=>(ab.1,ab.2,0) | none=>(0,0,20))∧(ruleE s ch≠0→measT s ch=(0,0,ruleE s ch))):=Lib.hid ⟨fun h=>if_pos h,fun h=>if_neg h⟩
  have HME:Hid (meaS s ch=meaE (oblB s) (rdV s ch) s.N s.ex.length):=Lib.hid rfl
  obtain ⟨mt,hmt⟩:∃x,x=measT s ch:=⟨_,rfl⟩
  obtain ⟨mo,hmo⟩:∃x,x=meaS s ch:=⟨_,rfl⟩
  obtain ⟨ve,hve⟩:∃x,x=ruleE s ch:=⟨_,rfl⟩
  rw[←hmt]at HD ⊢
  rw[←hmo]at HD HME
  rw[←hve]at KV KT HD
  have HX:=Lib.hid hx
  have HQ:=Lib.hid (idx_exec xad)
  clear hc hs ht hx h2 hf hve xad hmt hmo h8
  refine (callsIn_wide (n:=6)).1 ?_
  refine callsIn_of_wp_marks Tryz.func21 rfl trivial ?_ rfl
  simp only[Tryz.ntmps21,List.size_toArray,List.length_cons,List.length_nil,Nat.reduceAdd,Nat.reduceSub,Array.replicate_succ,Array.replicate_zero,List.push_toArray,List.append_toArray,List.nil_append,List.cons_append]
  refine wpIn_wide.2 ?_
  go_wp2_with fail
  refine (KV.out _ ex).mono ?_
  rintro _ w1 ⟨_,rfl,hb1,rfl⟩
  replace R0:=R0.ext hb1
  replace R1:=R1.ext hb1
  replace M4:=M4.ext hb1
  replace M5:=M5.ext hb1
  replace M6:=M6.ext hb1
  replace ex:=ext_trans ex hb1
  clear t0 t1 t2 t3 t4 t5 t6 t7 t8 t9 l0 r1 l1 hb1 KV
  by_cases hv0:ve=0
  case neg=>
    have d0:(ve !=0)=true:=by simp[hv0]
    have RE:=Lib.hid (HD.out.2 hv0)
    have m4:=M4.cell (j:=0) rfl
    have m5:=M5.cell (j:=0) rfl
    have m6:=M6.cell (j:=0) rfl
    have f4:=M4.free 0
    have f5:=M5.free 0
    have f6:=M6.free 0
    have l4:=M4.lt
    have l5:=M5.lt
    have l6:=M6.lt
    have P4:Row (((w1.setCell ⟨w.heap.size+1+1,0,none⟩ (.int .i64 0)).setCell ⟨w.heap.size+1+1+1,0,none⟩ (.int .i64 0)).setCell ⟨w.heap.size+1+1+1+1,0,none⟩ (.int .i64 ve)) (w.heap.size+1+1) 3 [.int .i64 0]:=((M4.set 0 (.int .i64 0)).grown (grownBy_setCell _ _ _ _) (fun e=>by injection e with e;omega)).grown (grownBy_setCell _ _ _ _) (fun e=>by injection e with e;omega)
    have P5:Row (((w1.setCell ⟨w.heap.size+1+1,0,none⟩ (.int .i64 0)).setCell ⟨w.heap.size+1+1+1,0,none⟩ (.int .i64 0)).setCell ⟨w.heap.size+1+1+1+1,0,none⟩ (.int .i64 ve)) (w.heap.size+1+1+1) 3 [.int .i64 0]:=((M5.grown (grownBy_setCell w1 (w.heap.size+1+1) 0 (.int .i64 0)) (fun e=>by injection e with e;omega)).set 0 (.int .i64 0)).grown (grownBy_setCell _ _ _ _) (fun e=>by injection e with e;omega)
    have P6:Row (((w1.setCell ⟨w.heap.size+1+1,0,none⟩ (.int .i64 0)).setCell ⟨w.heap.size+1+1+1,0,none⟩ (.int .i64 0)).setCell ⟨w.heap.size+1+1+1+1,0,none⟩ (.int .i64 ve)) (w.heap.size+1+1+1+1) 42 [.int .i64 ve]:=((M6.grown (grownBy_setCell w1 (w.heap.size+1+1) 0 (.int .i64 0)) (fun e=>by injection e with e;omega)).grown (grownBy_setCell (w1.setCell ⟨w.heap.size+1+1,0,none⟩ (.int .i64 0)) (w.heap.size+1+1+1) 0 (.int .i64 0)) (fun e=>by injection e with e;omega)).set 0 (.int .i64 ve)
    have hbf:Below w.heap.size w (((w1.setCell ⟨w.heap.size+1+1,0,none⟩ (.int .i64 0)).setCell ⟨w.heap.size+1+1+1,0,none⟩ (.int .i64 0)).setCell ⟨w.heap.size+1+1+1+1,0,none⟩ (.int .i64 ve)):=(((ex.setCell (p:=⟨w.heap.size+1+1,0,none⟩) (by dsimp only;omega) _).setCell (p:=⟨w.heap.size+1+1+1,0,none⟩) (by dsimp only;omega) _).setCell (p:=⟨w.heap.size+1+1+1+1,0,none⟩) (by dsimp only;omega) _)
    have q4:=P4.cell (j:=0) rfl
    have q5:=P5.cell (j:=0) rfl
    have q6:=P6.cell (j:=0) rfl
    clear hv0
    go_wp2
    refine bodyM_ret ?_
    exact ⟨.tuple #[.int .i64 0,.int .i64 0,.int .i64 ve],by simp[results,Tryz.results21,go_sem,q4,q5,q6],.mk hbf (by rw[RE.out];rfl)⟩
  have RE:=Lib.hid (HD.out.1 hv0)
  obtain ⟨hpn,hK6,hN5,hV,hFL⟩:=KT.out hv0
  have d0:(ve !=0)=false:=by simp[hv0]
  have HPN:=Lib.hid hpn
  have HV:=Lib.hid hV
  have HFL:=Lib.hid hFL
  have t9:=R0.cell (j:=9) rfl
  have l0:=R0.lt
  have hws:=ex.size
  have hw6:w.heap.size+1+1+1+1<w1.heap.size:=M6.lt
  clear hv0 hpn hV hFL KT HD
  go_wp2
  have A8:=(row_new w1 [.int .i64 0] 3).alloc (.cells #[.int .i64 0] 3)
  have A9:=row_new (w1.alloc (.cells #[.int .i64 0] 3)) [.int .i64 0] 3
  rw[World.size_alloc]at A9
  replace R0:=(R0.alloc (.cells #[.int .i64 0] 3)).alloc (.cells #[.int .i64 0] 3)
  replace R1:=(R1.alloc (.cells #[.int .i64 0] 3)).alloc (.cells #[.int .i64 0] 3)
  replace M4:=(M4.alloc (.cells #[.int .i64 0] 3)).alloc (.cells #[.int .i64 0] 3)
  replace M5:=(M5.alloc (.cells #[.int .i64 0] 3)).alloc (.cells #[.int .i64 0] 3)
  replace M6:=(M6.alloc (.cells #[.int .i64 0] 3)).alloc (.cells #[.int .i64 0] 3)
  replace ex:=ext_alloc' (ext_alloc' ex (.cells #[.int .i64 0] 3)) (.cells #[.int .i64 0] 3)
  obtain ⟨AB,hAB⟩:∃AB,AB=w1.heap.size:=⟨_,rfl⟩
  obtain ⟨w2,hw2⟩:∃w2,w2=(w1.alloc (.cells #[.int .i64 0] 3)).alloc (.cells #[.int .i64 0] 3):=⟨_,rfl⟩
  rw[←hAB]at A8 A9 hw6 hws ⊢
  rw[←hw2]at A8 A9 R0 R1 M4 M5 M6 ex ⊢
  clear hAB hw2 t9 l0 d0
  refine wp_loop (fun a' wr=>∃(ds:List Deferred) (u10 u11 u23 u24 u25 u26 u27 u28 u29 u30 u31 u48:Value),(∃(k:Nat) (x y:Int),k≤s.ex.length∧u23=.int .i64 k∧0≤x∧x≤6∧0≤y∧y≤30 * (k:Int)∧Hid (meaE (oblB s) (rdV s ch) s.N k=some (x,y))∧Below w.heap.size w wr∧Row wr w.heap.size 35 [.int .i64 s.p.n,.int .i64 s.p.ins,.int .i64 s.p.outs,.slice ca s.p.cs.length cc,.int .i64 s.p.an,.slice sa s.p.st.length sc,.int .i64 s.p.rounds,.int .i64 s.tn,.slice ta s.tab.length tc,.slice xa s.ex.length xc]∧Row wr (w.heap.size+1) 38 [.slice a2 ch.length c2]∧Row wr (w.heap.size+1+1) 3 [.int .i64 0]∧Row wr (w.heap.size+1+1+1) 3 [.int .i64 0]∧Row wr (w.heap.size+1+1+1+1) 42 [.int .i64 0]∧Row wr AB 3 [.int .i64 x]∧Row wr (AB+1) 3 [.int .i64 y]∧Marks w.heap.size wr ds)∧a'={tmps:=#[.agg #[.int .i64 s.p.n,.int .i64 s.p.ins,.int .i64 s.p.outs,.slice ca s.p.cs.length cc,.int .i64 s.p.an,.slice sa s.p.st.length sc,.int .i64 s.p.rounds,.int .i64 s.tn,.slice ta s.tab.length tc,.slice xa s.ex.length xc],.agg #[.slice a2 ch.length c2],.pointer (some ⟨w.heap.size,0,none⟩),.pointer (some ⟨w.heap.size+1,0,none⟩),.pointer (some ⟨w.heap.size+1+1,0,none⟩),.pointer (some ⟨w.heap.size+1+1+1,0,none⟩),.pointer (some ⟨w.heap.size+1+1+1+1,0,none⟩),.int .i64 ve,.pointer (some ⟨AB,0,none⟩),.pointer (some ⟨AB+1,0,none⟩),u10,u11,undef,undef,.agg #[.int .i64 s.p.n,.int .i64 s.p.ins,.int .i64 s.p.outs,.slice ca s.p.cs.length cc,.int .i64 s.p.an,.slice sa s.p.st.length sc,.int .i64 s.p.rounds,.int .i64 s.tn,.slice ta s.tab.length tc,.slice xa s.ex.length xc],.agg #[.slice a2 ch.length c2],.int .i64 ve,.int .i64 ve,.bool false,undef,.pointer (some ⟨w.heap.size,9,none⟩),.slice xa s.ex.length xc,.int .i64 s.ex.length,u23,u24,u25,u26,u27,u28,u29,u30,u31,undef,undef,undef,undef,undef,undef,undef,undef,undef,undef,undef,undef,undef,undef,undef,undef,u48,undef,undef],defers:=ds}) (fun a' _=>s.ex.length - (intOf (a'.tmps.getD 23 undef)).toNat) ?_ ?_
  · (repeat apply Exists.intro)
    refine ⟨?_,rfl⟩
    exact ⟨0,0,0,Nat.zero_le _,rfl,by decide,by decide,by decide,by decide,Lib.hid rfl,ex,R0,R1,M4,M5,M6,A8,A9,.nil _ _⟩
  · intro _ wr hinv
    obtain ⟨ds,u10,u11,u23,u24,u25,u26,u27,u28,u29,u30,u31,u48,hrel,ha⟩:=hinv
    subst ha
    clear ex R0 R1 M4 M5 M6 A8 A9 w2
    obtain ⟨k,x,y,hk,rfl,hx0,hx6,hy0,hy6,HM,hb,R0,R1,M4,M5,M6,A8,A9,HMK0⟩:=hrel
    have HMK:=Lib.hid HMK0
    clear HMK0
    by_cases hlt:k<s.ex.length
    case neg=>
      obtain rfl:k=s.ex.length:=by omega
      have RX:Hid (mt=(x,y,0)):=Lib.hid (by rw[RE.out,HME.out,HM.out])
      have m4:=M4.cell (j:=0) rfl
      have m5:=M5.cell (j:=0) rfl
      have m6:=M6.cell (j:=0) rfl
      have f4:=M4.free 0
      have f5:=M5.free 0
      have f6:=M6.free 0
      have l4:=M4.lt
      have l5:=M5.lt
      have l6:=M6.lt
      have P4:Row (((wr.setCell ⟨w.heap.size+1+1,0,none⟩ (.int .i64 x)).setCell ⟨w.heap.size+1+1+1,0,none⟩ (.int .i64 y)).setCell ⟨w.heap.size+1+1+1+1,0,none⟩ (.int .i64 0)) (w.heap.size+1+1) 3 [.int .i64 x]:=((M4.set 0 (.int .i64 x)).grown (grownBy_setCell _ _ _ _) (fun e=>by injection e with e;omega)).grown (grownBy_setCell _ _ _ _) (fun e=>by injection e with e;omega)
      have P5:Row (((wr.setCell ⟨w.heap.size+1+1,0,none⟩ (.int .i64 x)).setCell ⟨w.heap.size+1+1+1,0,none⟩ (.int .i64 y)).setCell ⟨w.heap.size+1+1+1+1,0,none⟩ (.int .i64 0)) (w.heap.size+1+1+1) 3 [.int .i64 y]:=((M5.grown (grownBy_setCell wr (w.heap.size+1+1) 0 (.int .i64 x)) (fun e=>by injection e with e;omega)).set 0 (.int .i64 y)).grown (grownBy_setCell _ _ _ _) (fun e=>by injection e with e;omega)
      have P6:Row (((wr.setCell ⟨w.heap.size+1+1,0,none⟩ (.int .i64 x)).setCell ⟨w.heap.size+1+1+1,0,none⟩ (.int .i64 y)).setCell ⟨w.heap.size+1+1+1+1,0,none⟩ (.int .i64 0)) (w.heap.size+1+1+1+1) 42 [.int .i64 0]:=((M6.grown (grownBy_setCell wr (w.heap.size+1+1) 0 (.int .i64 x)) (fun e=>by injection e with e;omega)).grown (grownBy_setCell (wr.setCell ⟨w.heap.size+1+1,0,none⟩ (.int .i64 x)) (w.heap.size+1+1+1) 0 (.int .i64 y)) (fun e=>by injection e with e;omega)).set 0 (.int .i64 0)
      have hbf:Below w.heap.size w (((wr.setCell ⟨w.heap.size+1+1,0,none⟩ (.int .i64 x)).setCell ⟨w.heap.size+1+1+1,0,none⟩ (.int .i64 y)).setCell ⟨w.heap.size+1+1+1+1,0,none⟩ (.int .i64 0)):=(((hb.setCell (p:=⟨w.heap.size+1+1,0,none⟩) (by dsimp only;omega) _).setCell (p:=⟨w.heap.size+1+1+1,0,none⟩) (by dsimp only;omega) _).setCell (p:=⟨w.heap.size+1+1+1+1,0,none⟩) (by dsimp only;omega) _)
      have q4:=P4.cell (j:=0) rfl
      have q5:=P5.cell (j:=0) rfl
      have q6:=P6.cell (j:=0) rfl
      have k8:=A8.cell (j:=0) rfl
      have k9:=A9.cell (j:=0) rfl
      have hA8:=A8.lt
      have hA9:=A9.lt
      have HMF:=Lib.hid (((HMK.out.set ⟨w.heap.size+1+1,0,none⟩ (.int .i64 x)).set ⟨w.heap.size+1+1+1,0,none⟩ (.int .i64 y) |>.set ⟨w.heap.size+1+1+1+1,0,none⟩ (.int .i64 0)).ext (drewN_below _ _ 1))
      have H4:=Lib.hid (P4.ext (drewN_below _ _ 1))
      have H5:=Lib.hid (P5.ext (drewN_below _ _ 1))
      have H6:=Lib.hid (P6.ext (drewN_below _ _ 1))
      have HBF:=Lib.hid (ext_trans hbf (drewN_below _ _ 1))
      clear M4 M5 M6 A8 A9 hb R0 R1 P4 P5 P6 hbf q4 q5 q6 HMK
      go_wp2
      go_region
      all_goals
        go_wp2
        refine bodyM_ret (leaves_marks HMF.out HBF.out.size fun W' hbel hrow=>?_)
        have q4:=(hrow _ _ _ H4.out).cell (j:=0) rfl
        have q5:=(hrow _ _ _ H5.out).cell (j:=0) rfl
        have q6:=(hrow _ _ _ H6.out).cell (j:=0) rfl
        exact ⟨.tuple #[.int .i64 x,.int .i64 y,.int .i64 0],by simp[results,Tryz.results21,go_sem,q4,q5,q6],.mk (HBF.out.trans hbel) (by rw[RX.out];rfl)⟩
    have HM2:Hid (∀l:List Nat,l<+:List.range s.N→meaL (oblB s k) (rdV s ch k) l (meaE (oblB s) (rdV s ch) s.N k)=none→mo=none):=Lib.hid fun l hl h0=>by
      rw[HME.out]
      refine meaE_none (k:=k+1) ?_ hlt
      unfold meaE
      exact meaL_prefix hl h0
    have HM0:Hid (meaL (oblB s k) (rdV s ch k) [] (meaE (oblB s) (rdV s ch) s.N k)=some (x,y)):=Lib.hid HM.out
    have HMF:Hid (∀x y,meaL (oblB s k) (rdV s ch k) (List.range s.N) (meaE (oblB s) (rdV s ch) s.N k)=some (x,y)→meaE (oblB s) (rdV s ch) s.N (k+1)=some (x,y)):=Lib.hid fun x y h=>by rw[meaL_range]at h;exact h
    obtain ⟨f,hf,hf2⟩:=HFL.out k hlt
    have HOB:=Lib.hid fun q (hq:q<s.N)=>oblB_not (s:=s) (e:=k) hf hq
    have hV:=HV.out k hlt
    obtain ⟨a1,c1,a3,c3,z0,z1,z2,i1,i2⟩:=HX.out.exec hlt
    replace z0:=cell_ext z0 hb
    replace z1:=cell_ext z1 hb
    replace z2:=cell_ext z2 hb
    have bk:=World.block_lt_of_cell? _ _ z0
    have q1:=HQ.out k hlt
    have HWD:=Lib.hid i1
    have HFW:=Lib.hid hf
    obtain ⟨e,he⟩:∃e,e=nthX s.ex k:=⟨_,rfl⟩
    rw[←he]at z0 z1 z2 HWD HFW
    have HE:=Lib.hid he
    have HVV:=Lib.hid hV
    have t0:=(R0.alloc (.cells #[.int .i64 e.case,.slice a1 e.word.length c1,.slice a3 e.vs.length c3] 68)).cell (j:=0) rfl
    have t1:=(R0.alloc (.cells #[.int .i64 e.case,.slice a1 e.word.length c1,.slice a3 e.vs.length c3] 68)).cell (j:=1) rfl
    have t2:=(R0.alloc (.cells #[.int .i64 e.case,.slice a1 e.word.length c1,.slice a3 e.vs.length c3] 68)).cell (j:=2) rfl
    have t3:=(R0.alloc (.cells #[.int .i64 e.case,.slice a1 e.word.length c1,.slice a3 e.vs.length c3] 68)).cell (j:=3) rfl
    have t4:=(R0.alloc (.cells #[.int .i64 e.case,.slice a1 e.word.length c1,.slice a3 e.vs.length c3] 68)).cell (j:=4) rfl
    have t5:=(R0.alloc (.cells #[.int .i64 e.case,.slice a1 e.word.length c1,.slice a3 e.vs.length c3] 68)).cell (j:=5) rfl
    have t6:=(R0.alloc (.cells #[.int .i64 e.case,.slice a1 e.word.length c1,.slice a3 e.vs.length c3] 68)).cell (j:=6) rfl
    have t7:=(R0.alloc (.cells #[.int .i64 e.case,.slice a1 e.word.length c1,.slice a3 e.vs.length c3] 68)).cell (j:=7) rfl
    have t8:=(R0.alloc (.cells #[.int .i64 e.case,.slice a1 e.word.length c1,.slice a3 e.vs.length c3] 68)).cell (j:=8) rfl
    have t9:=(R0.alloc (.cells #[.int .i64 e.case,.slice a1 e.word.length c1,.slice a3 e.vs.length c3] 68)).cell (j:=9) rfl
    have r1:=(R1.alloc (.cells #[.int .i64 e.case,.slice a1 e.word.length c1,.slice a3 e.vs.length c3] 68)).cell (j:=0) rfl
    have l1:=R1.lt
    have l0:=R0.lt
    have KMT:=Lib.hid (timesM_calls (wr.alloc (.cells #[.int .i64 e.case,.slice a1 e.word.length c1,.slice a3 e.vs.length c3] 68)) s k ca sa ta xa a2 cc sc tc xc c2 ch.length)
    clear he i1 i2 hV hf
    go_wp2_with fail
    refine KMT.out.mono ?_
    rintro _ _ ⟨rfl,rfl⟩
    clear t0 t1 t2 t3 t4 t5 t6 t7 t8 t9 r1 l1 l0 KMT z0 z1 z2 bk q1
    have RXB:=(((row_new wr [.int .i64 e.case,.slice a1 e.word.length c1,.slice a3 e.vs.length c3] 68).alloc (.cells #[.int .i64 s.p.n,.int .i64 s.p.ins,.int .i64 s.p.outs,.slice ca s.p.cs.length cc,.int .i64 s.p.an,.slice sa s.p.st.length sc,.int .i64 s.p.rounds,.int .i64 s.tn,.slice ta s.tab.length tc,.slice xa s.ex.length xc] 35)).alloc (.cells #[.slice a2 ch.length c2] 38)).alloc (.cells #[.int .i64 k] 3)
    have RSB:=((row_new (wr.alloc (.cells #[.int .i64 e.case,.slice a1 e.word.length c1,.slice a3 e.vs.length c3] 68)) [.int .i64 s.p.n,.int .i64 s.p.ins,.int .i64 s.p.outs,.slice ca s.p.cs.length cc,.int .i64 s.p.an,.slice sa s.p.st.length sc,.int .i64 s.p.rounds,.int .i64 s.tn,.slice ta s.tab.length tc,.slice xa s.ex.length xc] 35).alloc (.cells #[.slice a2 ch.length c2] 38)).alloc (.cells #[.int .i64 k] 3)
    have RRB:=(row_new ((wr.alloc (.cells #[.int .i64 e.case,.slice a1 e.word.length c1,.slice a3 e.vs.length c3] 68)).alloc (.cells #[.int .i64 s.p.n,.int .i64 s.p.ins,.int .i64 s.p.outs,.slice ca s.p.cs.length cc,.int .i64 s.p.an,.slice sa s.p.st.length sc,.int .i64 s.p.rounds,.int .i64 s.tn,.slice ta s.tab.length tc,.slice xa s.ex.length xc] 35)) [.slice a2 ch.length c2] 38).alloc (.cells #[.int .i64 k] 3)
    have REB:=row_new (((wr.alloc (.cells #[.int .i64 e.case,.slice a1 e.word.length c1,.slice a3 e.vs.length c3] 68)).alloc (.cells #[.int .i64 s.p.n,.int .i64 s.p.ins,.int .i64 s.p.outs,.slice ca s.p.cs.length cc,.int .i64 s.p.an,.slice sa s.p.st.length sc,.int .i64 s.p.rounds,.int .i64 s.tn,.slice ta s.tab.length tc,.slice xa s.ex.length xc] 35)).alloc (.cells #[.slice a2 ch.length c2] 38)) [.int .i64 k] 3
    have hb3:Below wr.heap.size wr ((((wr.alloc (.cells #[.int .i64 e.case,.slice a1 e.word.length c1,.slice a3 e.vs.length c3] 68)).alloc (.cells #[.int .i64 s.p.n,.int .i64 s.p.ins,.int .i64 s.p.outs,.slice ca s.p.cs.length cc,.int .i64 s.p.an,.slice sa s.p.st.length sc,.int .i64 s.p.rounds,.int .i64 s.tn,.slice ta s.tab.length tc,.slice xa s.ex.length xc] 35)).alloc (.cells #[.slice a2 ch.length c2] 38)).alloc (.cells #[.int .i64 k] 3)):=ext_alloc' (ext_alloc' (ext_alloc' (ext_alloc wr _) _) _) _
    have hz3:((((wr.alloc (.cells #[.int .i64 e.case,.slice a1 e.word.length c1,.slice a3 e.vs.length c3] 68)).alloc (.cells #[.int .i64 s.p.n,.int .i64 s.p.ins,.int .i64 s.p.outs,.slice ca s.p.cs.length cc,.int .i64 s.p.an,.slice sa s.p.st.length sc,.int .i64 s.p.rounds,.int .i64 s.tn,.slice ta s.tab.length tc,.slice xa s.ex.length xc] 35)).alloc (.cells #[.slice a2 ch.length c2] 38)).alloc (.cells #[.int .i64 k] 3)).heap.size=wr.heap.size+4:=by simp
    simp only[World.size_alloc]at RXB RSB RRB REB
    have hABl:AB+1<wr.heap.size:=A9.lt
    have hx3:=ext_trans hb hb3
    obtain ⟨w3,hw3⟩:∃w3,w3=((((wr.alloc (.cells #[.int .i64 e.case,.slice a1 e.word.length c1,.slice a3 e.vs.length c3] 68)).alloc (.cells #[.int .i64 s.p.n,.int .i64 s.p.ins,.int .i64 s.p.outs,.slice ca s.p.cs.length cc,.int .i64 s.p.an,.slice sa s.p.st.length sc,.int .i64 s.p.rounds,.int .i64 s.tn,.slice ta s.tab.length tc,.slice xa s.ex.length xc] 35)).alloc (.cells #[.slice a2 ch.length c2] 38)).alloc (.cells #[.int .i64 k] 3)):=⟨_,rfl⟩
    rw[←hw3]at RXB RSB RRB REB hb3 hz3 hx3 ⊢
    have R03:=R0.ext hb3
    have R13:=R1.ext hb3
    have M43:=M4.ext hb3
    have M53:=M5.ext hb3
    have M63:=M6.ext hb3
    have A83:=A8.ext hb3
    have A93:=A9.ext hb3
    have HM3:=Lib.hid (HMK.out.ext hb3)
    obtain ⟨NB,hNB⟩:∃NB,NB=wr.heap.size:=⟨_,rfl⟩
    rw[←hNB]at RXB RSB RRB REB hz3 hABl ⊢
    simp only[World.size_alloc]
    rw[←hNB]
    rw[HPN.out]at RSB
    clear hw3 hNB R0 R1 M4 M5 M6 A8 A9 hb hb3 HMK HPN
    have hTw:∀b,(b<w3.heap.size∧b≠AB∧b≠AB+1)→b<w3.heap.size:=fun b hb=>hb.1
    have HST:=times_stops (T:=fun b=>b<w3.heap.size∧b≠AB∧b≠AB+1) (n:=5) (by decide) RSB REB RRB (HVV.out.ext hx3) ⟨by omega,by omega,by omega⟩ ⟨by omega,by omega,by omega⟩ ⟨by omega,by omega,by omega⟩ (fun b hb=>⟨by have:=hb.2;omega,by have:=hb.2;omega,by have:=hb.2;omega⟩) (fun b hb=>⟨by have:=hb.2;omega,by have:=hb.2;omega,by have:=hb.2;omega⟩) hTw
    have hrd:∀q,rndQ ch (nthX s.ex k).vs s.K q=rdV s ch k q:=fun _=>rfl
    simp only[hrd]at HST
    clear RSB RRB REB HVV hrd
    go_wp2
    refine wpIn_wide (n:=6).1 ?_
    apply wpIn_rangeFunc_ownF (n:=6) rfl (by decide) (gf:=94) (lb:=#[.pointer (some ⟨NB+1,0,none⟩),.pointer (some ⟨NB+1+1+1,0,none⟩),.pointer (some ⟨NB+1+1,0,none⟩)]) rfl trivial (enters_of Tryz.func94 (by kernel_rfl) rfl)
      HST agreeK_t (agreeK_b hTw) (Below.refl _ _) (fun _=>rfl)
      (fun (pre:List {x:Nat // x<s.N}) W=>∃x y:Int,Row W AB 3 [.int .i64 x]∧Row W (AB+1) 3 [.int .i64 y]∧(0≤x∧x≤6∧0≤y∧y≤30 * (k:Int)+6 * (pre.length:Int))∧meaL (oblB s k) (rdV s ch k) (pre.map (·.1)) (meaE (oblB s) (rdV s ch) s.N k)=some (x,y)∧Agree (fun b=>b<w3.heap.size∧b≠AB∧b≠AB+1) w3 W∧Below w.heap.size w W)
      (fun c (pre:List {x:Nat // x<s.N}) W=>c=.ret∧meaL (oblB s k) (rdV s ch k) (pre.map (·.1)) (meaE (oblB s) (rdV s ch) s.N k)=none∧Row W (w.heap.size+1+1) 3 [.int .i64 0]∧Row W (w.heap.size+1+1+1) 3 [.int .i64 0]∧Row W (w.heap.size+1+1+1+1) 42 [.int .i64 20]∧Agree (fun b=>b<w3.heap.size∧b≠AB∧b≠AB+1∧b≠w.heap.size+1+1∧b≠w.heap.size+1+1+1∧b≠w.heap.size+1+1+1+1) w3 W∧Below w.heap.size w W)
      (fun pre A C row h hg hr=>by
        obtain ⟨x,y,h1,h2,h3,h4,h5,h6⟩:=h
        exact ⟨x,y,h1.grown hg (fun e=>by have:=(hr _ e).1;omega),h2.grown hg (fun e=>by have:=(hr _ e).1;omega),h3,h4,h5.trans (.of_grown hg fun b hb e=>by have:=(hr _ e).1;have:=hb.1;omega),h6.grown hg h6.size (fun k hk=>by have:=(hr k hk).1;omega)⟩)
      (fun c pre A C row h hg hr=>by
        obtain ⟨h0,h1,h2,h3,h4,h5,h6⟩:=h
        exact ⟨h0,h1,h2.grown hg (fun e=>by have:=(hr _ e).1;omega),h3.grown hg (fun e=>by have:=(hr _ e).1;omega),h4.grown hg (fun e=>by have:=(hr _ e).1;omega),h5.trans (.of_grown hg fun b hb e=>by have:=(hr _ e).1;have:=hb.1;omega),h6.grown hg h6.size (fun k hk=>by have:=(hr k hk).1;omega)⟩)
      ⟨x,y,A83,A93,⟨hx0,hx6,hy0,by simpa using hy6⟩,HM0.out,.refl _ _,hx3⟩
    case hassign=>
      intro l x W Kq hK
      have hK:=Lib.hid hK
      gi_wp2
      exact hK.out
    case hbody=>
      rintro l pre ⟨q,hq⟩ W ⟨x,y,P8,P9,⟨hx0,hx6,hy0,hy6⟩,hL,hA,hBW⟩ hlen
      dsimp only
      have HSN:Hid (meaL (oblB s k) (rdV s ch k) ((pre++[(⟨q,hq⟩:{x:Nat // x<s.N})]).map (·.1)) (meaE (oblB s) (rdV s ch) s.N k)=stepM (!f.testBit q) (rdV s ch k q) (x,y)):=Lib.hid (by
        rw[List.map_append,List.map_singleton,meaL_snoc,hL]
        show stepM (oblB s k q) _ _=_
        rw[HOB.out q hq])
      have hpl:((pre++[(⟨q,hq⟩:{x:Nat // x<s.N})]).length:Int)=(pre.length:Int)+1:=by simp
      have HPL:=Lib.hid hpl
      have hrb:=rdV_bound s ch (K:=s.K) hK6 k q
      obtain ⟨r,hr⟩:∃r,r=rdV s ch k q:=⟨_,rfl⟩
      rw[←hr]at HSN hrb ⊢
      have PX:=RXB.agree hA ⟨by omega,by omega,by omega⟩
      have x0:=PX.cell (j:=0) rfl
      have x1:=PX.cell (j:=1) rfl
      have x2:=PX.cell (j:=2) rfl
      have lX:=PX.lt
      have hwd:=(HWD.out.block.ext hx3).agree (hA.mono fun b hb=>⟨by have:=hb.2;omega,by have:=hb.2;omega,by have:=hb.2;omega⟩)
      have KF:=Lib.hid (pfaulty_calls (va:=a3) (vn:=e.vs.length) (vc:=c3) e.case hwd)
      rw[HFW.out]at KF
      have PM4:=M43.agree hA ⟨M43.lt,by omega,by omega⟩
      have PM5:=M53.agree hA ⟨M53.lt,by omega,by omega⟩
      have PM6:=M63.agree hA ⟨M63.lt,by omega,by omega⟩
      have hNl:s.N≤5:=hN5
      have hpre:(pre.length:Int)≤5:=by omega
      clear hr hpl hwd hL PX
      gi_wp2_with fail
      refine ⟨trivial,(CallsIn.inRound l (callsIn_wide.2 KF.out)).mono ?_⟩
      rintro _ w5 ⟨_,rfl,hb5,rfl⟩
      have KO5:KeepsOthers W w5:=keeps_below hb5
      have AG5:Agree (fun b=>b<w3.heap.size∧b≠AB∧b≠AB+1) W w5:=.of_ext hb5
      replace P8:=P8.ext hb5
      replace P9:=P9.ext hb5
      replace PM4:=PM4.ext hb5
      replace PM5:=PM5.ext hb5
      replace PM6:=PM6.ext hb5
      replace hA:=hA.trans AG5
      replace hBW:=hBW.trans (hb5.mono hBW.size)
      clear x0 x1 x2 lX KF hb5
      have hq64:(q:Int)<64:=by omega
      obtain ⟨bt,hbt⟩:∃bt,bt=f.testBit q:=⟨_,rfl⟩
      rw[←hbt]at HSN
      cases bt with
      | true=>
        have db:(bits .and .i64 ((f:Int) / 2 ^ q) 1==1)=true:=by rw[bit_nat];exact hbt.symm
        have HI:=Lib.hid (show KeepsOthers W w5∧Agree (fun b=>b<w3.heap.size∧b≠AB∧b≠AB+1) W w5∧_ from ⟨KO5,AG5,(⟨x,y,P8,P9,⟨hx0,hx6,hy0,by rw[HPL.out];omega⟩,HSN.out,hA,hBW⟩:∃x y:Int,Row w5 AB 3 [.int .i64 x]∧Row w5 (AB+1) 3 [.int .i64 y]∧(0≤x∧x≤6∧0≤y∧y≤30 * (k:Int)+6 * ((pre++[(⟨q,hq⟩:{x:Nat // x<s.N})]).length:Int))∧meaL (oblB s k) (rdV s ch k) ((pre++[(⟨q,hq⟩:{x:Nat // x<s.N})]).map (·.1)) (meaE (oblB s) (rdV s ch) s.N k)=some (x,y)∧Agree (fun b=>b<w3.heap.size∧b≠AB∧b≠AB+1) w3 w5∧Below w.heap.size w w5)⟩)
        clear hbt KO5 AG5 P8 P9 hA hBW PM4 PM5 PM6
        gi_wp2
        exact HI.out
      | false=>
        have db:(bits .and .i64 ((f:Int) / 2 ^ q) 1==1)=false:=by rw[bit_nat];exact hbt.symm
        clear hbt
        by_cases hr0:r<0
        · have d1:decide (r<0)=true:=decide_eq_true hr0
          have HN:Hid (meaL (oblB s k) (rdV s ch k) ((pre++[(⟨q,hq⟩:{x:Nat // x<s.N})]).map (·.1)) (meaE (oblB s) (rdV s ch) s.N k)=none):=Lib.hid (by rw[HSN.out];unfold stepM;rw[Bool.not_false,if_pos rfl,if_pos hr0])
          have m4:=PM4.cell (j:=0) rfl
          have m5:=PM5.cell (j:=0) rfl
          have m6:=PM6.cell (j:=0) rfl
          have f4:=PM4.free 0
          have f5:=PM5.free 0
          have f6:=PM6.free 0
          have l4:=PM4.lt
          have l5:=PM5.lt
          have l6:=PM6.lt
          have P4:Row (((w5.setCell ⟨w.heap.size+1+1,0,none⟩ (.int .i64 0)).setCell ⟨w.heap.size+1+1+1,0,none⟩ (.int .i64 0)).setCell ⟨w.heap.size+1+1+1+1,0,none⟩ (.int .i64 20)) (w.heap.size+1+1) 3 [.int .i64 0]:=((PM4.set 0 (.int .i64 0)).grown (grownBy_setCell _ _ _ _) (fun e=>by injection e with e;omega)).grown (grownBy_setCell _ _ _ _) (fun e=>by injection e with e;omega)
          have P5:Row (((w5.setCell ⟨w.heap.size+1+1,0,none⟩ (.int .i64 0)).setCell ⟨w.heap.size+1+1+1,0,none⟩ (.int .i64 0)).setCell ⟨w.heap.size+1+1+1+1,0,none⟩ (.int .i64 20)) (w.heap.size+1+1+1) 3 [.int .i64 0]:=((PM5.grown (grownBy_setCell w5 (w.heap.size+1+1) 0 (.int .i64 0)) (fun e=>by injection e with e;omega)).set 0 (.int .i64 0)).grown (grownBy_setCell _ _ _ _) (fun e=>by injection e with e;omega)
          have P6:Row (((w5.setCell ⟨w.heap.size+1+1,0,none⟩ (.int .i64 0)).setCell ⟨w.heap.size+1+1+1,0,none⟩ (.int .i64 0)).setCell ⟨w.heap.size+1+1+1+1,0,none⟩ (.int .i64 20)) (w.heap.size+1+1+1+1) 42 [.int .i64 20]:=((PM6.grown (grownBy_setCell w5 (w.heap.size+1+1) 0 (.int .i64 0)) (fun e=>by injection e with e;omega)).grown (grownBy_setCell (w5.setCell ⟨w.heap.size+1+1,0,none⟩ (.int .i64 0)) (w.heap.size+1+1+1) 0 (.int .i64 0)) (fun e=>by injection e with e;omega)).set 0 (.int .i64 20)
          have hbf:Below w.heap.size w (((w5.setCell ⟨w.heap.size+1+1,0,none⟩ (.int .i64 0)).setCell ⟨w.heap.size+1+1+1,0,none⟩ (.int .i64 0)).setCell ⟨w.heap.size+1+1+1+1,0,none⟩ (.int .i64 20)):=(((hBW.setCell (p:=⟨w.heap.size+1+1,0,none⟩) (by dsimp only;omega) _).setCell (p:=⟨w.heap.size+1+1+1,0,none⟩) (by dsimp only;omega) _).setCell (p:=⟨w.heap.size+1+1+1+1,0,none⟩) (by dsimp only;omega) _)
          have q4:=P4.cell (j:=0) rfl
          have q5:=P5.cell (j:=0) rfl
          have q6:=P6.cell (j:=0) rfl
          have HI3:Hid (KeepsOthers W (((w5.setCell ⟨w.heap.size+1+1,0,none⟩ (.int .i64 0)).setCell ⟨w.heap.size+1+1+1,0,none⟩ (.int .i64 0)).setCell ⟨w.heap.size+1+1+1+1,0,none⟩ (.int .i64 20))∧Agree (fun b=>b<w3.heap.size∧b≠AB∧b≠AB+1∧b≠w.heap.size+1+1∧b≠w.heap.size+1+1+1∧b≠w.heap.size+1+1+1+1) w3 (((w5.setCell ⟨w.heap.size+1+1,0,none⟩ (.int .i64 0)).setCell ⟨w.heap.size+1+1+1,0,none⟩ (.int .i64 0)).setCell ⟨w.heap.size+1+1+1+1,0,none⟩ (.int .i64 20))):=Lib.hid ⟨((KO5.trans (.setCell _ _ _)).trans (.setCell _ _ _)).trans (.setCell _ _ _),(((hA.mono fun b hb=>⟨hb.1,hb.2.1,hb.2.2.1⟩).trans (.of_grown (grownBy_setCell _ _ _ _) fun b hb e=>by injection e with e;omega)).trans (.of_grown (grownBy_setCell _ _ _ _) fun b hb e=>by injection e with e;omega)).trans (.of_grown (grownBy_setCell _ _ _ _) fun b hb e=>by injection e with e;omega)⟩
          have HP4:=Lib.hid P4
          have HP5:=Lib.hid P5
          have HP6:=Lib.hid P6
          have HBF:=Lib.hid hbf
          clear KO5 AG5 P8 P9 hA hBW PM4 PM5 PM6 P4 P5 P6 hbf q4 q5 q6 hr0
          gi_wp2
          exact ⟨HI3.out.1,rfl,HN.out,HP4.out,HP5.out,HP6.out,HI3.out.2,HBF.out⟩
        · have d1:decide (r<0)=false:=decide_eq_false hr0
          have hmr:0≤(if x<r then r else x)∧(if x<r then r else x)≤6:=by split<;>omega
          have HI2:Hid (∀W',W'=((w5.setCell ⟨AB,0,none⟩ (.int .i64 (if x<r then r else x))).setCell ⟨AB+1,0,none⟩ (.int .i64 (IntKind.i64.wrap (y+r)))).drew→KeepsOthers W W'∧Agree (fun b=>b<w3.heap.size∧b≠AB∧b≠AB+1) W W'∧∃x y:Int,Row W' AB 3 [.int .i64 x]∧Row W' (AB+1) 3 [.int .i64 y]∧(0≤x∧x≤6∧0≤y∧y≤30 * (k:Int)+6 * ((pre++[(⟨q,hq⟩:{x:Nat // x<s.N})]).length:Int))∧meaL (oblB s k) (rdV s ch k) ((pre++[(⟨q,hq⟩:{x:Nat // x<s.N})]).map (·.1)) (meaE (oblB s) (rdV s ch) s.N k)=some (x,y)∧Agree (fun b=>b<w3.heap.size∧b≠AB∧b≠AB+1) w3 W'∧Below w.heap.size w W'):=Lib.hid fun W' hW'=>by
            have hkk:(k:Int)≤140737488355328:=by omega
            have hwr:IntKind.i64.wrap (y+r)=y+r:=by rw[IntKind.wrap_i64];omega
            rw[hwr]at hW'
            subst hW'
            have g1:=grownBy_setCell w5 AB 0 (.int .i64 (if x<r then r else x))
            have g2:=grownBy_setCell (w5.setCell ⟨AB,0,none⟩ (.int .i64 (if x<r then r else x))) (AB+1) 0 (.int .i64 (y+r))
            have e1:=drewN_below ((w5.setCell ⟨AB,0,none⟩ (.int .i64 (if x<r then r else x))).setCell ⟨AB+1,0,none⟩ (.int .i64 (y+r))).heap.size ((w5.setCell ⟨AB,0,none⟩ (.int .i64 (if x<r then r else x))).setCell ⟨AB+1,0,none⟩ (.int .i64 (y+r))) 1
            have a1:Agree (fun b=>b<w3.heap.size∧b≠AB∧b≠AB+1) w5 ((w5.setCell ⟨AB,0,none⟩ (.int .i64 (if x<r then r else x))).setCell ⟨AB+1,0,none⟩ (.int .i64 (y+r))).drew:=((Agree.of_grown g1 fun b hb e=>by injection e with e;omega).trans (.of_grown g2 fun b hb e=>by injection e with e;omega)).trans (.of_ext e1)
            have hbn:=(hBW.setCell (p:=⟨AB,0,none⟩) (by dsimp only;omega) (.int .i64 (if x<r then r else x))).setCell (p:=⟨AB+1,0,none⟩) (by dsimp only;omega) (.int .i64 (y+r))
            refine ⟨((KO5.trans (.setCell _ _ _)).trans (.setCell _ _ _)).trans (keeps_below e1),AG5.trans a1,_,_,((P8.set 0 _).grown g2 (fun e=>by injection e with e;omega)).ext e1,((P9.grown g1 (fun e=>by injection e with e;omega)).set 0 _).ext e1,⟨hmr.1,hmr.2,by omega,by rw[HPL.out];omega⟩,?_,hA.trans a1,ext_trans hbn e1⟩
            rw[HSN.out];unfold stepM;rw[Bool.not_false,if_pos rfl,if_neg hr0]
          have m8:=P8.cell (j:=0) rfl
          have m9:=P9.cell (j:=0) rfl
          have f8:=P8.free 0
          have f9:=P9.free 0
          have l8:=P8.lt
          have l9:=P9.lt
          have HS6:Hid (∀v,(w5.setCell ⟨AB,0,none⟩ v).drew.cell? ⟨AB+1,0,none⟩=some (.int .i64 y)):=Lib.hid fun v=>((P9.grown (grownBy_setCell w5 AB 0 v) (fun e=>by injection e with e;omega)).ext (drewN_below _ _ 1)).cell (j:=0) rfl
          have HM9:Hid (w5.drew.cell? ⟨AB+1,0,none⟩=some (.int .i64 y)):=Lib.hid ((P9.ext (drewN_below w5.heap.size w5 1)).cell (j:=0) rfl)
          clear KO5 AG5 P8 P9 hA hBW PM4 PM5 PM6 hr0
          gi_wp2
          refine region_EIn (fun w':World=>w'.cell? ⟨AB+1,0,none⟩=some (.int .i64 y)) (fun i=>i==7) (by kernel_rfl) (by kernel_rfl) (by rintro ⟨_,_,h⟩;exact h) ?_ (fun hHeld=>?_)
          · exact HM9.out
          refine anyE_takeT 1 (v:=?_) rfl (by kernel_rfl) (fun _ _ _ h=>h) (by rfl) ?hy1 hHeld ?rest1
          case hy1=>(intro w hSw;(try dsimp only at hSw);go_simp;try with_reducible rfl)
          try simp only[Act.put,zsa,zsz,zss]
          refine anyE_takeT 4 (v:=?_) rfl (by kernel_rfl) (fun _ _ _ h=>h) (by rfl) ?hy4 hHeld ?rest4
          case hy4=>(intro w hSw;(try dsimp only at hSw);go_simp;try with_reducible rfl)
          try simp only[Act.put,zsa,zsz,zss]
          refine anyE_takeT 3 (v:=?_) rfl (by kernel_rfl) (fun _ _ _ h=>h) (by rfl) ?hy3 hHeld ?rest3
          case hy3=>(intro w hSw;(try dsimp only at hSw);go_simp;try with_reducible rfl)
          try simp only[Act.put,zsa,zsz,zss]
          refine anyE_takeT 5 (v:=?_) rfl (by kernel_rfl) (fun _ _ _ h=>h) (by rfl) ?hy5 hHeld ?rest5
          case hy5=>(intro w hSw;(try dsimp only at hSw);go_simp;try with_reducible rfl)
          try simp only[Act.put,zsa,zsz,zss]
          refine anyE_one 0 rfl (by kernel_rfl) (fun K hK=>?_)
          go_simp
          refine hK.out _ _ (fun _=>HM9.out) (fun hHeld=>?_);replace hHeld:=hHeld rfl
          clear hK K
          try simp only[Act.put,zsa,zsz,zss]
          refine anyE_takeT 2 (v:=?_) rfl (by kernel_rfl) (fun _ _ _ h=>h) (by rfl) ?hy2 hHeld ?rest2
          case hy2=>(intro w hSw;(try dsimp only at hSw);go_simp;try with_reducible rfl)
          try simp only[Act.put,zsa,zsz,zss]
          refine anyE_one 6 rfl (by kernel_rfl) (fun K hK=>?_)
          go_simp
          refine hK.out _ _ (fun _=>HS6.out _) (fun hHeld=>?_);replace hHeld:=hHeld rfl
          clear hK K
          try simp only[Act.put,zsa,zsz,zss]
          refine anyE_one 7 rfl (by kernel_rfl) (fun K hK=>?_)
          go_simp
          refine hK.out _ _ (fun h=>by simp at h) (fun hHeld=>?_)
          clear hK K
          try simp only[Act.put,zsa,zsz,zss]
          refine anyE_done (by kernel_rfl) ?_ _
          exact HI2.out _ rfl
    case hstop=>
      rintro D c pre W hD hSp ⟨rfl,hN,P4,P5,P6,hA,hBW⟩ hK
      have RX:Hid (mt=(0,0,20)):=Lib.hid (by rw[RE.out,HM2.out _ hSp hN])
      have hne:∀b e xs,Row w3 b e xs→∀D,w3.heap[D]? =some (.deferred (some []))→D≠b:=fun b e xs hR D hD e=>by
        unfold Row at hR;rw[e]at hD;rw[hD]at hR;cases hR
      have HMW:=HM3.out.agree hA (fun D hD=>⟨(Array.getElem?_eq_some_iff.1 hD).1,hne _ _ _ A83 D hD,hne _ _ _ A93 D hD,hne _ _ _ M43 D hD,hne _ _ _ M53 D hD,hne _ _ _ M63 D hD⟩)
      have HMC:=Lib.hid (HM3.out.cons (D:=D) HMW hD (by have:=hx3.size;omega) hK)
      have HB:=Lib.hid hBW
      have H4:=Lib.hid P4
      have H5:=Lib.hid P5
      have H6:=Lib.hid P6
      clear P4 P5 P6 hA hBW HMW hK
      gi_wp2
      refine bodyM_ret (leaves_marks HMC.out HB.out.size fun W' hbel hrow=>?_)
      have q4:=(hrow _ _ _ H4.out).cell (j:=0) rfl
      have q5:=(hrow _ _ _ H5.out).cell (j:=0) rfl
      have q6:=(hrow _ _ _ H6.out).cell (j:=0) rfl
      exact ⟨.tuple #[.int .i64 0,.int .i64 0,.int .i64 20],by simp[results,Tryz.results21,go_sem,q4,q5,q6],.mk (HB.out.trans hbel) (by rw[RX.out];rfl)⟩
    case hdone=>
      rintro D l W hD hS ⟨x,y,P8,P9,⟨hx0,hx6,hy0,hy6⟩,hL,hA,hBW⟩ hK
      rw[hS]at hL
      have HMN:=Lib.hid (HMF.out x y hL)
      have hlen:=congrArg List.length hS
      rw[List.length_map,List.length_range]at hlen
      have hy7:y≤30 * ((k+1:Nat):Int):=by omega
      have hne:∀b e xs,Row w3 b e xs→∀D,w3.heap[D]? =some (.deferred (some []))→D≠b:=fun b e xs hR D hD e=>by
        unfold Row at hR;rw[e]at hD;rw[hD]at hR;cases hR
      have HMW:=HM3.out.agree hA (fun D hD=>⟨(Array.getElem?_eq_some_iff.1 hD).1,hne _ _ _ A83 D hD,hne _ _ _ A93 D hD⟩)
      have HMC:=Lib.hid (HM3.out.cons (D:=D) HMW hD (by have:=hx3.size;omega) hK)
      have G0:=R03.agree hA ⟨R03.lt,by omega,by omega⟩
      have G1:=R13.agree hA ⟨R13.lt,by omega,by omega⟩
      have G4:=M43.agree hA ⟨M43.lt,by omega,by omega⟩
      have G5:=M53.agree hA ⟨M53.lt,by omega,by omega⟩
      have G6:=M63.agree hA ⟨M63.lt,by omega,by omega⟩
      clear hL hS hA HMW hne R03 R13 M43 M53 M63 A83 A93 HM3 hlen hK
      go_wp2
      refine ⟨?rel,?measure⟩
      case rel=>
        (repeat apply Exists.intro)
        refine ⟨?hr,?he⟩
        case he=>repeat' (first | exact rfl | apply And.intro)
        exact ⟨k+1,x,y,by omega,by go_num,hx0,hx6,hy0,hy7,HMN,hBW,G0,G1,G4,G5,G6,P8,P9,HMC.out⟩
      case measure=>simp[intOf];omega
end Go.Proofs.YtcopehiceihdaaaGreat
