/- Part of the proof that the laws of chapter 45 answer true for every input. -/
import Derived.Test.YtcopehiceihdaaaGreatPCh35
import Derived.Test.YtcopehiceihdaaaGreatPCh37
import Derived.Test.YtcopehiceihdaaaGreatPCh38
set_option linter.unusedSimpArgs false
set_option linter.unnecessarySimpa false
set_option linter.unusedVariables false
set_option maxRecDepth 100000
set_option maxHeartbeats 40000000
namespace Go.Proofs.YtcopehiceihdaaaGreat
open Go.RowKit Go.Shelf
attribute [local go_sem ↓] Go.wp_at_zero Go.wp_at_succ
attribute [local go_sem] Oper.semAt_some
def limL (f:Nat→Int) (l:List Nat):Int→Option Int:=l.foldl (fun (m:Int→Option Int) (q:Nat)=>fun z=>if z=(q:Int) then some (f q) else m z) (fun _=>none)
theorem limL_snoc (f:Nat→Int) (l:List Nat) (q:Nat):limL f (l++[q])=fun z=>if z=(q:Int) then some (f q) else limL f l z:=by unfold limL;rw[List.foldl_append];rfl
theorem limL_range (f:Nat→Int) (q:Nat):∀n,q<n→limL f (List.range n) (q:Int)=some (f q)
  | 0,h=>by omega
  | n+1,h=>by
    rw[List.range_succ,limL_snoc]
    show (if (q:Int)=(n:Int) then some (f n) else limL f (List.range n) (q:Int))=some (f q)
    by_cases e:q=n
    · rw[if_pos (by omega),e]
    · rw[if_neg (by omega)];exact limL_range f q n (by omega)
theorem mapI_lim (f:Nat→Int) (m:Int→Option Int) (q:Nat):(fun z=>if z=(q:Int) then some (Value.int .i64 (f q)) else mapI m z)=mapI (fun z=>if z=(q:Int) then some (f q) else m z):=by
  funext z
  show (if z=(q:Int) then some (Value.int .i64 (f q)) else (m z).map (Value.int .i64))=(if z=(q:Int) then some (f q) else m z).map (Value.int .i64)
  split<;>rfl
theorem pEarl_calls {S S2 S3:Nat→Prop} {w:World} {v vch vck:Value} {s:SysF} {ch ck:List Int} (h:SysV S w v s) (hf:PFew s.p) (h2:Ints S2 w vch ch) (h3:Ints S3 w vck ck):
    Calls Tryz.prog 33 #[v,.agg #[vch],.agg #[vck]] w (Post w fun _ r=>r=earlV (earlT s ch ck)):=by
  have KV:Hid (∀W,Below w.heap.size w W→Calls Tryz.prog 16 #[v,.agg #[vch]] W (Post W fun _ r=>r=.int .i64 (ruleE s ch))):=Lib.hid fun W hW=>pcheck_calls (h.ext hW) hf (h2.ext hW)
  have KF:Hid (ruleE s ch=0→∀W,Below w.heap.size w W→Calls Tryz.prog 45 #[v,.agg #[vck]] W (Post W fun _ r=>r=.int .i64 (formE s ck))):=Lib.hid fun h0 W hW=>pform_calls (h.ext hW) (good_sys (ruleE_ok h0).1 h.moves8).tab (h3.ext hW)
  have h8:=h.moves8
  obtain ⟨vc,vs,vt,vx,rfl,hc,hs,ht,hx⟩:=h
  obtain ⟨ca,cc,rfl,_⟩:=hc.form
  obtain ⟨sa,sc,rfl,_⟩:=hs.form
  obtain ⟨ta,tc,rfl,_⟩:=ht.form
  obtain ⟨xa,xc,rfl,xad,_⟩:=hx.form2
  obtain ⟨a2,c2,rfl,_⟩:=h2.form
  obtain ⟨a3,c3,rfl,_⟩:=h3.form
  have hfew:=hx.few
  have KT:Hid (ruleE s ch=0→formE s ck=0→s.p.n=(s.N:Int)∧s.K≤6∧s.N≤5∧(∀e,e<s.ex.length→TimV w (fun b=>S b∧b<w.heap.size) (fun b=>S2 b∧b<w.heap.size) xa xc s.ex e s.N s.K a2 c2 ch)∧(∀e,e<s.ex.length→TimV w (fun b=>S b∧b<w.heap.size) (fun b=>S3 b∧b<w.heap.size) xa xc s.ex e s.N s.K a3 c3 ck)∧∀e,e<s.ex.length→∃f:Nat,fltyW (nthX s.ex e).word=f∧f<2 ^ s.N):=Lib.hid fun h0 h1=>by
    obtain ⟨j1,j2,_⟩:=ruleE_ok h0
    have hg:=good_sys j1 h8
    exact ⟨hg.pok.n,hg.K6,by have:=hg.pok.n1.2;omega,fun e he=>SysV.tim (ca:=ca) (sa:=sa) (ta:=ta) (cc:=cc) (sc:=sc) (tc:=tc) hg hx h2 j2 he,fun e he=>SysV.tim (ca:=ca) (sa:=sa) (ta:=ta) (cc:=cc) (sc:=sc) (tc:=tc) hg hx h3 (formE_len h1) he,fun e he=>hg.flty he⟩
  have ex:=ext_alloc' (ext_alloc' (ext_alloc' (ext_alloc' (ext_alloc w (.cells #[.int .i64 s.p.n,.int .i64 s.p.ins,.int .i64 s.p.outs,.slice ca s.p.cs.length cc,.int .i64 s.p.an,.slice sa s.p.st.length sc,.int .i64 s.p.rounds,.int .i64 s.tn,.slice ta s.tab.length tc,.slice xa s.ex.length xc] 35)) (.cells #[.slice a2 ch.length c2] 38)) (.cells #[.slice a3 ck.length c3] 38)) (.cells #[.bool false] 4)) (.cells #[.int .i64 0] 42)
  have R0:=((((row_new w [.int .i64 s.p.n,.int .i64 s.p.ins,.int .i64 s.p.outs,.slice ca s.p.cs.length cc,.int .i64 s.p.an,.slice sa s.p.st.length sc,.int .i64 s.p.rounds,.int .i64 s.tn,.slice ta s.tab.length tc,.slice xa s.ex.length xc] 35).alloc (.cells #[.slice a2 ch.length c2] 38)).alloc (.cells #[.slice a3 ck.length c3] 38)).alloc (.cells #[.bool false] 4)).alloc (.cells #[.int .i64 0] 42)
  have R1:=(((row_new (w.alloc (.cells #[.int .i64 s.p.n,.int .i64 s.p.ins,.int .i64 s.p.outs,.slice ca s.p.cs.length cc,.int .i64 s.p.an,.slice sa s.p.st.length sc,.int .i64 s.p.rounds,.int .i64 s.tn,.slice ta s.tab.length tc,.slice xa s.ex.length xc] 35)) [.slice a2 ch.length c2] 38).alloc (.cells #[.slice a3 ck.length c3] 38)).alloc (.cells #[.bool false] 4)).alloc (.cells #[.int .i64 0] 42)
  have R2:=((row_new ((w.alloc (.cells #[.int .i64 s.p.n,.int .i64 s.p.ins,.int .i64 s.p.outs,.slice ca s.p.cs.length cc,.int .i64 s.p.an,.slice sa s.p.st.length sc,.int .i64 s.p.rounds,.int .i64 s.tn,.slice ta s.tab.length tc,.slice xa s.ex.length xc] 35)).alloc (.cells #[.slice a2 ch.length c2] 38)) [.slice a3 ck.length c3] 38).alloc (.cells #[.bool false] 4)).alloc (.cells #[.int .i64 0] 42)
  have M6:=(row_new (((w.alloc (.cells #[.int .i64 s.p.n,.int .i64 s.p.ins,.int .i64 s.p.outs,.slice ca s.p.cs.length cc,.int .i64 s.p.an,.slice sa s.p.st.length sc,.int .i64 s.p.rounds,.int .i64 s.tn,.slice ta s.tab.length tc,.slice xa s.ex.length xc] 35)).alloc (.cells #[.slice a2 ch.length c2] 38)).alloc (.cells #[.slice a3 ck.length c3] 38)) [.bool false] 4).alloc (.cells #[.int .i64 0] 42)
  have M7:=row_new ((((w.alloc (.cells #[.int .i64 s.p.n,.int .i64 s.p.ins,.int .i64 s.p.outs,.slice ca s.p.cs.length cc,.int .i64 s.p.an,.slice sa s.p.st.length sc,.int .i64 s.p.rounds,.int .i64 s.tn,.slice ta s.tab.length tc,.slice xa s.ex.length xc] 35)).alloc (.cells #[.slice a2 ch.length c2] 38)).alloc (.cells #[.slice a3 ck.length c3] 38)).alloc (.cells #[.bool false] 4)) [.int .i64 0] 42
  simp only[World.size_alloc]at R1 R2 M6 M7
  have t0:=R0.cell (j:=0) rfl
  have t1:=R0.cell (j:=1) rfl
  have t2:=R0.cell (j:=2) rfl
  have t3:=R0.cell (j:=3) rfl
  have t4:=R0.cell (j:=4) rfl
  have t5:=R0.cell (j:=5) rfl
  have t6:=R0.cell (j:=6) rfl
  have t7:=R0.cell (j:=7) rfl
  have t8:=R0.cell (j:=8) rfl
  have t9:=R0.cell (j:=9) rfl
  have r1:=R1.cell (j:=0) rfl
  have l1:=R1.lt
  have l0:=R0.lt
  have HD:Hid ((ruleE s ch=0→formE s ck=0→earlT s ch ck=(soonB s ch ck,0))∧(ruleE s ch=0→formE s ck≠0→earlT s ch ck=(false,formE s ck))∧(ruleE s ch≠0→earlT s ch ck=(false,ruleE s ch))):=Lib.hid ⟨fun h h1=>by unfold earlT;rw[if_pos h,if_pos h1],fun h h1=>by unfold earlT;rw[if_pos h,if_neg h1],fun h=>by unfold earlT;rw[if_neg h]⟩
  have HSB:Hid (soonB s ch ck=soonTo s ch ck s.ex.length):=Lib.hid rfl
  have HBB:Hid (∀e q,e<s.ex.length→q<s.N→badB s ch ck e q=true→soonB s ch ck=false):=Lib.hid fun e q he hq h=>soonB_bad he hq h
  obtain ⟨mt,hmt⟩:∃x,x=earlT s ch ck:=⟨_,rfl⟩
  obtain ⟨sb,hsb⟩:∃x,x=soonB s ch ck:=⟨_,rfl⟩
  obtain ⟨ve,hve⟩:∃x,x=ruleE s ch:=⟨_,rfl⟩
  obtain ⟨vf,hvf⟩:∃x,x=formE s ck:=⟨_,rfl⟩
  rw[←hmt]at HD ⊢
  rw[←hsb]at HD HSB HBB
  rw[←hve]at KV KT KF HD
  rw[←hvf]at KF KT HD
  have HX:=Lib.hid hx
  have HQ:=Lib.hid (idx_exec xad)
  clear hc hs ht hx h2 h3 hf hve xad hmt hsb hvf h8
  refine (callsIn_wide (n:=6)).1 ?_
  refine callsIn_of_wp_marks Tryz.func33 rfl trivial ?_ rfl
  simp only[Tryz.ntmps33,List.size_toArray,List.length_cons,List.length_nil,Nat.reduceAdd,Nat.reduceSub,Array.replicate_succ,Array.replicate_zero,List.push_toArray,List.append_toArray,List.nil_append,List.cons_append]
  refine wpIn_wide.2 ?_
  go_wp2_with fail
  refine (KV.out _ ex).mono ?_
  rintro _ w1 ⟨_,rfl,hb1,rfl⟩
  replace R0:=R0.ext hb1
  replace R1:=R1.ext hb1
  replace R2:=R2.ext hb1
  replace M6:=M6.ext hb1
  replace M7:=M7.ext hb1
  replace ex:=ext_trans ex hb1
  clear t0 t1 t2 t3 t4 t5 t6 t7 t8 t9 l0 r1 l1 hb1 KV
  by_cases hv0:ve=0
  case neg=>
    have d0:(ve !=0)=true:=by simp[hv0]
    have RE:=Lib.hid (HD.out.2.2 hv0)
    have m6:=M6.cell (j:=0) rfl
    have m7:=M7.cell (j:=0) rfl
    have f6:=M6.free 0
    have f7:=M7.free 0
    have l6:=M6.lt
    have l7:=M7.lt
    have P6:Row ((w1.setCell ⟨w.heap.size+1+1+1,0,none⟩ (.bool false)).setCell ⟨w.heap.size+1+1+1+1,0,none⟩ (.int .i64 ve)) (w.heap.size+1+1+1) 4 [.bool false]:=(M6.set 0 (.bool false)).grown (grownBy_setCell _ _ _ _) (fun e=>by injection e with e;omega)
    have P7:Row ((w1.setCell ⟨w.heap.size+1+1+1,0,none⟩ (.bool false)).setCell ⟨w.heap.size+1+1+1+1,0,none⟩ (.int .i64 ve)) (w.heap.size+1+1+1+1) 42 [.int .i64 ve]:=(M7.grown (grownBy_setCell w1 (w.heap.size+1+1+1) 0 (.bool false)) (fun e=>by injection e with e;omega)).set 0 (.int .i64 ve)
    have hbf:Below w.heap.size w ((w1.setCell ⟨w.heap.size+1+1+1,0,none⟩ (.bool false)).setCell ⟨w.heap.size+1+1+1+1,0,none⟩ (.int .i64 ve)):=(ex.setCell (p:=⟨w.heap.size+1+1+1,0,none⟩) (by dsimp only;omega) _).setCell (p:=⟨w.heap.size+1+1+1+1,0,none⟩) (by dsimp only;omega) _
    have q6:=P6.cell (j:=0) rfl
    have q7:=P7.cell (j:=0) rfl
    clear hv0
    go_wp2
    refine bodyM_ret ?_
    exact ⟨.tuple #[.bool false,.int .i64 ve],by simp[results,Tryz.results33,go_sem,q6,q7],.mk hbf (by rw[RE.out];rfl)⟩
  have KF2:=KF.out hv0
  have d0:(ve !=0)=false:=by simp[hv0]
  have t0:=R0.cell (j:=0) rfl
  have t1:=R0.cell (j:=1) rfl
  have t2:=R0.cell (j:=2) rfl
  have t3:=R0.cell (j:=3) rfl
  have t4:=R0.cell (j:=4) rfl
  have t5:=R0.cell (j:=5) rfl
  have t6:=R0.cell (j:=6) rfl
  have t7:=R0.cell (j:=7) rfl
  have t8:=R0.cell (j:=8) rfl
  have t9:=R0.cell (j:=9) rfl
  have r2:=R2.cell (j:=0) rfl
  have l2:=R2.lt
  have l0:=R0.lt
  have HV0:=Lib.hid hv0
  clear hv0
  go_wp2_with fail
  refine (KF2 _ ex).mono ?_
  rintro _ w2 ⟨_,rfl,hb2,rfl⟩
  replace R0:=R0.ext hb2
  replace R1:=R1.ext hb2
  replace R2:=R2.ext hb2
  replace M6:=M6.ext hb2
  replace M7:=M7.ext hb2
  replace ex:=ext_trans ex hb2
  clear t0 t1 t2 t3 t4 t5 t6 t7 t8 t9 l0 r2 l2 hb2 KF2 KF d0
  by_cases hf0:vf=0
  case neg=>
    have d0:(vf !=0)=true:=by simp[hf0]
    have RE:=Lib.hid (HD.out.2.1 HV0.out hf0)
    have m6:=M6.cell (j:=0) rfl
    have m7:=M7.cell (j:=0) rfl
    have f6:=M6.free 0
    have f7:=M7.free 0
    have l6:=M6.lt
    have l7:=M7.lt
    have P6:Row ((w2.setCell ⟨w.heap.size+1+1+1,0,none⟩ (.bool false)).setCell ⟨w.heap.size+1+1+1+1,0,none⟩ (.int .i64 vf)) (w.heap.size+1+1+1) 4 [.bool false]:=(M6.set 0 (.bool false)).grown (grownBy_setCell _ _ _ _) (fun e=>by injection e with e;omega)
    have P7:Row ((w2.setCell ⟨w.heap.size+1+1+1,0,none⟩ (.bool false)).setCell ⟨w.heap.size+1+1+1+1,0,none⟩ (.int .i64 vf)) (w.heap.size+1+1+1+1) 42 [.int .i64 vf]:=(M7.grown (grownBy_setCell w2 (w.heap.size+1+1+1) 0 (.bool false)) (fun e=>by injection e with e;omega)).set 0 (.int .i64 vf)
    have hbf:Below w.heap.size w ((w2.setCell ⟨w.heap.size+1+1+1,0,none⟩ (.bool false)).setCell ⟨w.heap.size+1+1+1+1,0,none⟩ (.int .i64 vf)):=(ex.setCell (p:=⟨w.heap.size+1+1+1,0,none⟩) (by dsimp only;omega) _).setCell (p:=⟨w.heap.size+1+1+1+1,0,none⟩) (by dsimp only;omega) _
    have q6:=P6.cell (j:=0) rfl
    have q7:=P7.cell (j:=0) rfl
    clear hf0
    go_wp2
    refine bodyM_ret ?_
    exact ⟨.tuple #[.bool false,.int .i64 vf],by simp[results,Tryz.results33,go_sem,q6,q7],.mk hbf (by rw[RE.out];rfl)⟩
  have RE:=Lib.hid (HD.out.1 HV0.out hf0)
  obtain ⟨hpn,hK6,hN5,hVa,hVb,hFL⟩:=KT.out HV0.out hf0
  have d0:(vf !=0)=false:=by simp[hf0]
  have HPN:=Lib.hid hpn
  have HVA:=Lib.hid hVa
  have HVB:=Lib.hid hVb
  have HFL:=Lib.hid hFL
  have t9:=R0.cell (j:=9) rfl
  have l0:=R0.lt
  have hws:=ex.size
  have hw6:w.heap.size+1+1+1+1<w2.heap.size:=M7.lt
  clear hf0 hpn hVa hVb hFL KT HD
  go_wp2
  clear t9 l0 d0
  refine wp_loop (fun a' wr=>∃(ds:List Deferred) (u10 u11 u12 u32 u33 u34 u35 u36 u37 u38 u39 u40 u41 u47 u48 u49 u50 u76:Value),(∃(k:Nat),k≤s.ex.length∧u32=.int .i64 k∧Hid (soonTo s ch ck k=true)∧Below w.heap.size w wr∧Row wr w.heap.size 35 [.int .i64 s.p.n,.int .i64 s.p.ins,.int .i64 s.p.outs,.slice ca s.p.cs.length cc,.int .i64 s.p.an,.slice sa s.p.st.length sc,.int .i64 s.p.rounds,.int .i64 s.tn,.slice ta s.tab.length tc,.slice xa s.ex.length xc]∧Row wr (w.heap.size+1) 38 [.slice a2 ch.length c2]∧Row wr (w.heap.size+1+1) 38 [.slice a3 ck.length c3]∧Row wr (w.heap.size+1+1+1) 4 [.bool false]∧Row wr (w.heap.size+1+1+1+1) 42 [.int .i64 0]∧Marks w.heap.size wr ds)∧a'={tmps:=#[.agg #[.int .i64 s.p.n,.int .i64 s.p.ins,.int .i64 s.p.outs,.slice ca s.p.cs.length cc,.int .i64 s.p.an,.slice sa s.p.st.length sc,.int .i64 s.p.rounds,.int .i64 s.tn,.slice ta s.tab.length tc,.slice xa s.ex.length xc],.agg #[.slice a2 ch.length c2],.agg #[.slice a3 ck.length c3],.pointer (some ⟨w.heap.size,0,none⟩),.pointer (some ⟨w.heap.size+1,0,none⟩),.pointer (some ⟨w.heap.size+1+1,0,none⟩),.pointer (some ⟨w.heap.size+1+1+1,0,none⟩),.pointer (some ⟨w.heap.size+1+1+1+1,0,none⟩),.int .i64 ve,.int .i64 vf,u10,u11,u12,undef,undef,undef,undef,.agg #[.int .i64 s.p.n,.int .i64 s.p.ins,.int .i64 s.p.outs,.slice ca s.p.cs.length cc,.int .i64 s.p.an,.slice sa s.p.st.length sc,.int .i64 s.p.rounds,.int .i64 s.tn,.slice ta s.tab.length tc,.slice xa s.ex.length xc],.agg #[.slice a2 ch.length c2],.int .i64 ve,.int .i64 ve,.bool false,undef,.agg #[.int .i64 s.p.n,.int .i64 s.p.ins,.int .i64 s.p.outs,.slice ca s.p.cs.length cc,.int .i64 s.p.an,.slice sa s.p.st.length sc,.int .i64 s.p.rounds,.int .i64 s.tn,.slice ta s.tab.length tc,.slice xa s.ex.length xc],.agg #[.slice a3 ck.length c3],.int .i64 vf,.int .i64 vf,.bool false,undef,.pointer (some ⟨w.heap.size,9,none⟩),.slice xa s.ex.length xc,.int .i64 s.ex.length,u32,u33,u34,u35,u36,u37,u38,u39,u40,u41,undef,undef,undef,undef,undef,u47,u48,u49,u50,undef,undef,undef,undef,undef,undef,undef,undef,undef,undef,undef,undef,undef,undef,undef,undef,undef,undef,undef,undef,undef,undef,undef,undef,undef,u76],defers:=ds}) (fun a' _=>s.ex.length - (intOf (a'.tmps.getD 32 undef)).toNat) ?_ ?_
  · (repeat apply Exists.intro)
    refine ⟨?_,rfl⟩
    exact ⟨0,Nat.zero_le _,rfl,Lib.hid rfl,ex,R0,R1,R2,M6,M7,.nil _ _⟩
  · intro _ wr hinv
    obtain ⟨ds,u10,u11,u12,u32,u33,u34,u35,u36,u37,u38,u39,u40,u41,u47,u48,u49,u50,u76,hrel,ha⟩:=hinv
    subst ha
    clear ex R0 R1 R2 M6 M7 hw6 hws
    obtain ⟨k,hk,rfl,HT,hb,R0,R1,R2,M6,M7,HMK0⟩:=hrel
    have HMK:=Lib.hid HMK0
    clear HMK0
    by_cases hlt:k<s.ex.length
    case neg=>
      obtain rfl:k=s.ex.length:=by omega
      have RX:Hid (mt=(true,0)):=Lib.hid (by rw[RE.out,HSB.out,HT.out])
      have m6:=M6.cell (j:=0) rfl
      have m7:=M7.cell (j:=0) rfl
      have f6:=M6.free 0
      have f7:=M7.free 0
      have l6:=M6.lt
      have l7:=M7.lt
      have P6:Row ((wr.setCell ⟨w.heap.size+1+1+1,0,none⟩ (.bool true)).setCell ⟨w.heap.size+1+1+1+1,0,none⟩ (.int .i64 0)) (w.heap.size+1+1+1) 4 [.bool true]:=(M6.set 0 (.bool true)).grown (grownBy_setCell _ _ _ _) (fun e=>by injection e with e;omega)
      have P7:Row ((wr.setCell ⟨w.heap.size+1+1+1,0,none⟩ (.bool true)).setCell ⟨w.heap.size+1+1+1+1,0,none⟩ (.int .i64 0)) (w.heap.size+1+1+1+1) 42 [.int .i64 0]:=(M7.grown (grownBy_setCell wr (w.heap.size+1+1+1) 0 (.bool true)) (fun e=>by injection e with e;omega)).set 0 (.int .i64 0)
      have hbf:Below w.heap.size w ((wr.setCell ⟨w.heap.size+1+1+1,0,none⟩ (.bool true)).setCell ⟨w.heap.size+1+1+1+1,0,none⟩ (.int .i64 0)):=(hb.setCell (p:=⟨w.heap.size+1+1+1,0,none⟩) (by dsimp only;omega) _).setCell (p:=⟨w.heap.size+1+1+1+1,0,none⟩) (by dsimp only;omega) _
      have q6:=P6.cell (j:=0) rfl
      have q7:=P7.cell (j:=0) rfl
      have HMF:=Lib.hid ((HMK.out.set ⟨w.heap.size+1+1+1,0,none⟩ (.bool true)).set ⟨w.heap.size+1+1+1+1,0,none⟩ (.int .i64 0))
      have H6:=Lib.hid P6
      have H7:=Lib.hid P7
      have HBF:=Lib.hid hbf
      clear M6 M7 hb R0 R1 R2 P6 P7 hbf q6 q7 HMK
      go_wp2
      refine bodyM_ret (leaves_marks HMF.out HBF.out.size fun W' hbel hrow=>?_)
      have q6:=(hrow _ _ _ H6.out).cell (j:=0) rfl
      have q7:=(hrow _ _ _ H7.out).cell (j:=0) rfl
      exact ⟨.tuple #[.bool true,.int .i64 0],by simp[results,Tryz.results33,go_sem,q6,q7],.mk (HBF.out.trans hbel) (by rw[RX.out];rfl)⟩
    obtain ⟨f,hf,hf2⟩:=HFL.out k hlt
    have HOB:=Lib.hid fun q (hq:q<s.N)=>oblB_not (s:=s) (e:=k) hf hq
    have hVa:=HVA.out k hlt
    have hVb:=HVB.out k hlt
    obtain ⟨a1,c1,av,cv,z0,z1,z2,i1,i2⟩:=HX.out.exec hlt
    replace z0:=cell_ext z0 hb
    replace z1:=cell_ext z1 hb
    replace z2:=cell_ext z2 hb
    have bk:=World.block_lt_of_cell? _ _ z0
    have q1:=HQ.out k hlt
    have HWD:=Lib.hid i1
    have HFW:=Lib.hid hf
    obtain ⟨e,he⟩:∃e,e=nthX s.ex k:=⟨_,rfl⟩
    rw[←he]at z0 z1 z2 HWD HFW
    have HVVA:=Lib.hid hVa
    have HVVB:=Lib.hid hVb
    have RX0:=((R0.alloc (.cells #[.int .i64 e.case,.slice a1 e.word.length c1,.slice av e.vs.length cv] 68)).alloc (.map #[] 0)).alloc (.cells #[.map (some (wr.heap.size+1))] 95)
    have t0:=RX0.cell (j:=0) rfl
    have t1:=RX0.cell (j:=1) rfl
    have t2:=RX0.cell (j:=2) rfl
    have t3:=RX0.cell (j:=3) rfl
    have t4:=RX0.cell (j:=4) rfl
    have t5:=RX0.cell (j:=5) rfl
    have t6:=RX0.cell (j:=6) rfl
    have t7:=RX0.cell (j:=7) rfl
    have t8:=RX0.cell (j:=8) rfl
    have t9:=RX0.cell (j:=9) rfl
    have r2:=(((R2.alloc (.cells #[.int .i64 e.case,.slice a1 e.word.length c1,.slice av e.vs.length cv] 68)).alloc (.map #[] 0)).alloc (.cells #[.map (some (wr.heap.size+1))] 95)).cell (j:=0) rfl
    have l2:=R2.lt
    have l0:=R0.lt
    have hmm:=@run_makeMap Tryz.prog
    have KMT:=Lib.hid (timesM_calls (((wr.alloc (.cells #[.int .i64 e.case,.slice a1 e.word.length c1,.slice av e.vs.length cv] 68)).alloc (.map #[] 0)).alloc (.cells #[.map (some (wr.heap.size+1))] 95)) s k ca sa ta xa a3 cc sc tc xc c3 ck.length)
    clear he i1 i2 hVa hVb hf
    go_wp2_with fail
    refine KMT.out.mono ?_
    rintro _ _ ⟨rfl,rfl⟩
    clear t0 t1 t2 t3 t4 t5 t6 t7 t8 t9 r2 l2 l0 KMT z0 z1 z2 bk q1 hmm RX0
    have RXB:=(((((row_new wr [.int .i64 e.case,.slice a1 e.word.length c1,.slice av e.vs.length cv] 68).alloc (.map #[] 0)).alloc (.cells #[.map (some (wr.heap.size+1))] 95)).alloc (.cells #[.int .i64 s.p.n,.int .i64 s.p.ins,.int .i64 s.p.outs,.slice ca s.p.cs.length cc,.int .i64 s.p.an,.slice sa s.p.st.length sc,.int .i64 s.p.rounds,.int .i64 s.tn,.slice ta s.tab.length tc,.slice xa s.ex.length xc] 35)).alloc (.cells #[.slice a3 ck.length c3] 38)).alloc (.cells #[.int .i64 k] 3)
    have RMB:=(((row_new ((wr.alloc (.cells #[.int .i64 e.case,.slice a1 e.word.length c1,.slice av e.vs.length cv] 68)).alloc (.map #[] 0)) [.map (some (wr.heap.size+1))] 95).alloc (.cells #[.int .i64 s.p.n,.int .i64 s.p.ins,.int .i64 s.p.outs,.slice ca s.p.cs.length cc,.int .i64 s.p.an,.slice sa s.p.st.length sc,.int .i64 s.p.rounds,.int .i64 s.tn,.slice ta s.tab.length tc,.slice xa s.ex.length xc] 35)).alloc (.cells #[.slice a3 ck.length c3] 38)).alloc (.cells #[.int .i64 k] 3)
    have RMV:=((((MapV.made keyN (wr.alloc (.cells #[.int .i64 e.case,.slice a1 e.word.length c1,.slice av e.vs.length cv] 68))).alloc (.cells #[.map (some (wr.heap.size+1))] 95)).alloc (.cells #[.int .i64 s.p.n,.int .i64 s.p.ins,.int .i64 s.p.outs,.slice ca s.p.cs.length cc,.int .i64 s.p.an,.slice sa s.p.st.length sc,.int .i64 s.p.rounds,.int .i64 s.tn,.slice ta s.tab.length tc,.slice xa s.ex.length xc] 35)).alloc (.cells #[.slice a3 ck.length c3] 38)).alloc (.cells #[.int .i64 k] 3)
    have RSB:=((row_new (((wr.alloc (.cells #[.int .i64 e.case,.slice a1 e.word.length c1,.slice av e.vs.length cv] 68)).alloc (.map #[] 0)).alloc (.cells #[.map (some (wr.heap.size+1))] 95)) [.int .i64 s.p.n,.int .i64 s.p.ins,.int .i64 s.p.outs,.slice ca s.p.cs.length cc,.int .i64 s.p.an,.slice sa s.p.st.length sc,.int .i64 s.p.rounds,.int .i64 s.tn,.slice ta s.tab.length tc,.slice xa s.ex.length xc] 35).alloc (.cells #[.slice a3 ck.length c3] 38)).alloc (.cells #[.int .i64 k] 3)
    have RRB:=(row_new ((((wr.alloc (.cells #[.int .i64 e.case,.slice a1 e.word.length c1,.slice av e.vs.length cv] 68)).alloc (.map #[] 0)).alloc (.cells #[.map (some (wr.heap.size+1))] 95)).alloc (.cells #[.int .i64 s.p.n,.int .i64 s.p.ins,.int .i64 s.p.outs,.slice ca s.p.cs.length cc,.int .i64 s.p.an,.slice sa s.p.st.length sc,.int .i64 s.p.rounds,.int .i64 s.tn,.slice ta s.tab.length tc,.slice xa s.ex.length xc] 35)) [.slice a3 ck.length c3] 38).alloc (.cells #[.int .i64 k] 3)
    have REB:=row_new (((((wr.alloc (.cells #[.int .i64 e.case,.slice a1 e.word.length c1,.slice av e.vs.length cv] 68)).alloc (.map #[] 0)).alloc (.cells #[.map (some (wr.heap.size+1))] 95)).alloc (.cells #[.int .i64 s.p.n,.int .i64 s.p.ins,.int .i64 s.p.outs,.slice ca s.p.cs.length cc,.int .i64 s.p.an,.slice sa s.p.st.length sc,.int .i64 s.p.rounds,.int .i64 s.tn,.slice ta s.tab.length tc,.slice xa s.ex.length xc] 35)).alloc (.cells #[.slice a3 ck.length c3] 38)) [.int .i64 k] 3
    have hb3:Below wr.heap.size wr ((((((wr.alloc (.cells #[.int .i64 e.case,.slice a1 e.word.length c1,.slice av e.vs.length cv] 68)).alloc (.map #[] 0)).alloc (.cells #[.map (some (wr.heap.size+1))] 95)).alloc (.cells #[.int .i64 s.p.n,.int .i64 s.p.ins,.int .i64 s.p.outs,.slice ca s.p.cs.length cc,.int .i64 s.p.an,.slice sa s.p.st.length sc,.int .i64 s.p.rounds,.int .i64 s.tn,.slice ta s.tab.length tc,.slice xa s.ex.length xc] 35)).alloc (.cells #[.slice a3 ck.length c3] 38)).alloc (.cells #[.int .i64 k] 3)):=ext_alloc' (ext_alloc' (ext_alloc' (ext_alloc' (ext_alloc' (ext_alloc wr _) _) _) _) _) _
    have hz3:((((((wr.alloc (.cells #[.int .i64 e.case,.slice a1 e.word.length c1,.slice av e.vs.length cv] 68)).alloc (.map #[] 0)).alloc (.cells #[.map (some (wr.heap.size+1))] 95)).alloc (.cells #[.int .i64 s.p.n,.int .i64 s.p.ins,.int .i64 s.p.outs,.slice ca s.p.cs.length cc,.int .i64 s.p.an,.slice sa s.p.st.length sc,.int .i64 s.p.rounds,.int .i64 s.tn,.slice ta s.tab.length tc,.slice xa s.ex.length xc] 35)).alloc (.cells #[.slice a3 ck.length c3] 38)).alloc (.cells #[.int .i64 k] 3)).heap.size=wr.heap.size+6:=by simp
    simp only[World.size_alloc]at RXB RMB RMV RSB RRB REB
    have hx3:=ext_trans hb hb3
    obtain ⟨w3,hw3⟩:∃w3,w3=((((((wr.alloc (.cells #[.int .i64 e.case,.slice a1 e.word.length c1,.slice av e.vs.length cv] 68)).alloc (.map #[] 0)).alloc (.cells #[.map (some (wr.heap.size+1))] 95)).alloc (.cells #[.int .i64 s.p.n,.int .i64 s.p.ins,.int .i64 s.p.outs,.slice ca s.p.cs.length cc,.int .i64 s.p.an,.slice sa s.p.st.length sc,.int .i64 s.p.rounds,.int .i64 s.tn,.slice ta s.tab.length tc,.slice xa s.ex.length xc] 35)).alloc (.cells #[.slice a3 ck.length c3] 38)).alloc (.cells #[.int .i64 k] 3)):=⟨_,rfl⟩
    rw[←hw3]at RXB RMB RMV RSB RRB REB hb3 hz3 hx3 ⊢
    have hM7l:=M7.lt
    have R03:=R0.ext hb3
    have R13:=R1.ext hb3
    have R23:=R2.ext hb3
    have M63:=M6.ext hb3
    have M73:=M7.ext hb3
    have HM3:=Lib.hid (HMK.out.ext hb3)
    obtain ⟨NB,hNB⟩:∃NB,NB=wr.heap.size:=⟨_,rfl⟩
    rw[←hNB]at RXB RMB RMV RSB RRB REB hz3 hM7l ⊢
    simp only[World.size_alloc]
    rw[←hNB]
    rw[HPN.out]at RSB
    clear hw3 hNB R0 R1 R2 M6 M7 hb hb3 HMK
    have hTw:∀b,(b<w3.heap.size∧b≠NB+1)→b<w3.heap.size:=fun b hb=>hb.1
    have HST:=times_stops (T:=fun b=>b<w3.heap.size∧b≠NB+1) (n:=5) (by decide) RSB REB RRB (HVVB.out.ext hx3) ⟨by omega,by omega⟩ ⟨by omega,by omega⟩ ⟨by omega,by omega⟩ (fun b hb=>⟨by have:=hb.2;omega,by have:=hb.2;omega⟩) (fun b hb=>⟨by have:=hb.2;omega,by have:=hb.2;omega⟩) hTw
    have hrd:∀q,rndQ ck (nthX s.ex k).vs s.K q=rdV s ck k q:=fun _=>rfl
    simp only[hrd]at HST
    have HIN:Hid (MapV keyN w3 (NB+1) (mapI (limL (rdV s ck k) [])) 0):=Lib.hid RMV
    clear RSB RRB REB HVVB hrd RMV
    go_wp2
    refine wpIn_wide (n:=6).1 ?_
    apply wpIn_rangeFunc_ownG (n:=6) rfl (by decide) (gf:=94) (lb:=#[.pointer (some ⟨NB+1+1+1,0,none⟩),.pointer (some ⟨NB+1+1+1+1+1,0,none⟩),.pointer (some ⟨NB+1+1+1+1,0,none⟩)]) rfl trivial (enters_of Tryz.func94 (by kernel_rfl) rfl)
      HST agreeK_t (agreeK_b hTw) (Below.refl _ _) (fun _=>rfl)
      (fun (pre:List {x:Nat // x<s.N}) W=>∃n:Nat,MapV keyN W (NB+1) (mapI (limL (rdV s ck k) (pre.map (·.1)))) n∧n≤pre.length∧Agree (fun b=>b<w3.heap.size∧b≠NB+1) w3 W∧Below w.heap.size w W)
      (fun c (pre:List {x:Nat // x<s.N}) W=>False)
      (fun pre A C row h hg hr=>by
        obtain ⟨n,h1,h2,h5,h6⟩:=h
        exact ⟨n,h1.agree (S:=fun b=>b=NB+1) (.of_grown hg fun b hb e=>by have:=(hr _ e).1;omega) rfl,h2,h5.trans (.of_grown hg fun b hb e=>by have:=(hr _ e).1;have:=hb.1;omega),h6.grown hg h6.size (fun k hk=>by have:=(hr k hk).1;have:=hx3.size;omega)⟩)
      (fun c=>ownFrom_false _) ⟨0,HIN.out,Nat.zero_le _,.refl _ _,hx3⟩
    case hassign=>
      intro l x W Kq hK
      have hK:=Lib.hid hK
      gi_wp2
      exact hK.out
    case hstop=>intros;contradiction
    case hbody=>
      rintro l pre ⟨q,hq⟩ W ⟨n,hM,hn,hA,hBW⟩ hlen
      dsimp only
      have HLS:=Lib.hid (limL_snoc (rdV s ck k) (pre.map (·.1)) q)
      have hpm:(pre++[(⟨q,hq⟩:{x:Nat // x<s.N})]).map (·.1)=pre.map (·.1)++[q]:=by simp
      have hpl:(pre++[(⟨q,hq⟩:{x:Nat // x<s.N})]).length=pre.length+1:=by simp
      obtain ⟨W',hr,hM',hg⟩:=hM.store Tryz.underlying95 (by unfold maxLen;omega) (x:=(q:Int)) (wf_small (by omega)) (.int .i64 (rdV s ck k q))
      have hr':(Instr.mapUpdate 95 (.map (some (NB+1))) (.int .i64 (q:Int)) (.int .i64 (rdV s ck k q))).run Tryz.prog W=.ok () W':=hr
      have hag:Agree (fun b=>b≠NB+1) W W':=.of_grown hg fun b hb e=>hb (by injection e with e;exact e.symm)
      rw[mapI_lim,←HLS.out,←hpm]at hM'
      have HI:Hid (KeepsFrom w3.heap.size W W'∧Agree (fun b=>b<w3.heap.size∧b≠NB+1) W W'∧∃n:Nat,MapV keyN W' (NB+1) (mapI (limL (rdV s ck k) ((pre++[(⟨q,hq⟩:{x:Nat // x<s.N})]).map (·.1)))) n∧n≤(pre++[(⟨q,hq⟩:{x:Nat // x<s.N})]).length∧Agree (fun b=>b<w3.heap.size∧b≠NB+1) w3 W'∧Below w.heap.size w W'):=Lib.hid ⟨keepsFrom_of hag (fun k o hk _ _=>by omega),hag.mono fun b hb=>hb.2,_,hM',by split<;>omega,hA.trans (hag.mono fun b hb=>hb.2),hBW.grown hg hBW.size (fun k hk=>by cases hk;have:=hx3.size;omega)⟩
      have c0:=(RMB.agree hA ⟨by omega,by omega⟩).cell (j:=0) rfl
      have lc:=(RMB.agree hA ⟨by omega,by omega⟩).lt
      obtain ⟨y,hy⟩:∃y,y=rdV s ck k q:=⟨_,rfl⟩
      rw[←hy]at hr' ⊢
      clear hr hM hM' hg hag hA hBW hpm hpl hy
      gi_wp2
      exact HI.out
    case hdone=>
      rintro D1 lim W hD1 hS1 ⟨n,hM,hn,hA,hBW⟩ hK1
      rw[hS1]at hM
      have HLIM:=Lib.hid fun q (hq:q<s.N)=>limL_range (rdV s ck k) q s.N hq
      have hne:∀b e xs,Row w3 b e xs→∀D,w3.heap[D]? =some (.deferred (some []))→D≠b:=fun b e xs hR D hD e=>by
        unfold Row at hR;rw[e]at hD;rw[hD]at hR;cases hR
      have hne1:∀D,w3.heap[D]? =some (.deferred (some []))→D≠NB+1:=fun D hD e=>by
        obtain ⟨DD,⟨es,clock,hb,_⟩,_⟩:=HIN.out
        rw[e,hb]at hD;cases hD
      have HMW:=HM3.out.agree hA (fun D hD=>⟨(Array.getElem?_eq_some_iff.1 hD).1,hne1 D hD⟩)
      have HM1:=HM3.out.cons (D:=D1) HMW hD1 (by have:=hx3.size;omega) hK1
      have G0:=R03.agree hA ⟨R03.lt,by omega⟩
      have G1:=R13.agree hA ⟨R13.lt,by omega⟩
      have G2:=R23.agree hA ⟨R23.lt,by omega⟩
      have G6:=M63.agree hA ⟨M63.lt,by omega⟩
      have G7:=M73.agree hA ⟨M73.lt,by omega⟩
      have GX:=RXB.agree hA ⟨RXB.lt,by omega⟩
      have GM:=RMB.agree hA ⟨RMB.lt,by omega⟩
      have hwd:=(HWD.out.block.ext hx3).agree (hA.mono fun b hb=>⟨by have:=hb.2;omega,by have:=hb.2;omega⟩)
      have HMM:=Lib.hid hM
      have hWs:=hA.size
      clear HST HMW hne hne1 R03 R13 R23 M63 M73 RXB RMB HM3 HIN hA hM hK1 hx3 HWD
      have t0:=G0.cell (j:=0) rfl
      have t1:=G0.cell (j:=1) rfl
      have t2:=G0.cell (j:=2) rfl
      have t3:=G0.cell (j:=3) rfl
      have t4:=G0.cell (j:=4) rfl
      have t5:=G0.cell (j:=5) rfl
      have t6:=G0.cell (j:=6) rfl
      have t7:=G0.cell (j:=7) rfl
      have t8:=G0.cell (j:=8) rfl
      have t9:=G0.cell (j:=9) rfl
      have r1:=G1.cell (j:=0) rfl
      have l1:=G1.lt
      have l0:=G0.lt
      have KMT:=Lib.hid (timesM_calls W s k ca sa ta xa a2 cc sc tc xc c2 ch.length)
      go_wp2_with fail
      refine KMT.out.mono ?_
      rintro _ _ ⟨rfl,rfl⟩
      clear t0 t1 t2 t3 t4 t5 t6 t7 t8 t9 r1 l1 l0 KMT
      have RSB:=((row_new W [.int .i64 s.p.n,.int .i64 s.p.ins,.int .i64 s.p.outs,.slice ca s.p.cs.length cc,.int .i64 s.p.an,.slice sa s.p.st.length sc,.int .i64 s.p.rounds,.int .i64 s.tn,.slice ta s.tab.length tc,.slice xa s.ex.length xc] 35).alloc (.cells #[.slice a2 ch.length c2] 38)).alloc (.cells #[.int .i64 k] 3)
      have RRB:=(row_new (W.alloc (.cells #[.int .i64 s.p.n,.int .i64 s.p.ins,.int .i64 s.p.outs,.slice ca s.p.cs.length cc,.int .i64 s.p.an,.slice sa s.p.st.length sc,.int .i64 s.p.rounds,.int .i64 s.tn,.slice ta s.tab.length tc,.slice xa s.ex.length xc] 35)) [.slice a2 ch.length c2] 38).alloc (.cells #[.int .i64 k] 3)
      have REB:=row_new ((W.alloc (.cells #[.int .i64 s.p.n,.int .i64 s.p.ins,.int .i64 s.p.outs,.slice ca s.p.cs.length cc,.int .i64 s.p.an,.slice sa s.p.st.length sc,.int .i64 s.p.rounds,.int .i64 s.tn,.slice ta s.tab.length tc,.slice xa s.ex.length xc] 35)).alloc (.cells #[.slice a2 ch.length c2] 38)) [.int .i64 k] 3
      have hb4:Below W.heap.size W (((W.alloc (.cells #[.int .i64 s.p.n,.int .i64 s.p.ins,.int .i64 s.p.outs,.slice ca s.p.cs.length cc,.int .i64 s.p.an,.slice sa s.p.st.length sc,.int .i64 s.p.rounds,.int .i64 s.tn,.slice ta s.tab.length tc,.slice xa s.ex.length xc] 35)).alloc (.cells #[.slice a2 ch.length c2] 38)).alloc (.cells #[.int .i64 k] 3)):=ext_alloc' (ext_alloc' (ext_alloc W _) _) _
      have hz4:(((W.alloc (.cells #[.int .i64 s.p.n,.int .i64 s.p.ins,.int .i64 s.p.outs,.slice ca s.p.cs.length cc,.int .i64 s.p.an,.slice sa s.p.st.length sc,.int .i64 s.p.rounds,.int .i64 s.tn,.slice ta s.tab.length tc,.slice xa s.ex.length xc] 35)).alloc (.cells #[.slice a2 ch.length c2] 38)).alloc (.cells #[.int .i64 k] 3)).heap.size=W.heap.size+3:=by simp
      simp only[World.size_alloc]at RSB RRB REB
      have hx4:=hBW.trans (hb4.mono hBW.size)
      obtain ⟨w4,hw4⟩:∃w4,w4=(((W.alloc (.cells #[.int .i64 s.p.n,.int .i64 s.p.ins,.int .i64 s.p.outs,.slice ca s.p.cs.length cc,.int .i64 s.p.an,.slice sa s.p.st.length sc,.int .i64 s.p.rounds,.int .i64 s.tn,.slice ta s.tab.length tc,.slice xa s.ex.length xc] 35)).alloc (.cells #[.slice a2 ch.length c2] 38)).alloc (.cells #[.int .i64 k] 3)):=⟨_,rfl⟩
      rw[←hw4]at RSB RRB REB hb4 hz4 hx4 ⊢
      have G0:=G0.ext hb4
      have G1:=G1.ext hb4
      have G2:=G2.ext hb4
      have G6:=G6.ext hb4
      have G7:=G7.ext hb4
      have GX:=GX.ext hb4
      have GM:=GM.ext hb4
      have HM4:=Lib.hid (HM1.ext hb4)
      have HMM:=Lib.hid (HMM.out.ext hb4)
      have hwd:=hwd.ext hb4
      obtain ⟨NC,hNC⟩:∃NC,NC=W.heap.size:=⟨_,rfl⟩
      rw[←hNC]at RSB RRB REB hz4 hWs ⊢
      rw[HPN.out]at RSB
      clear hw4 hNC hBW HM1 hb4
      have hTw:∀b,b<w4.heap.size→b<w4.heap.size:=fun b hb=>hb
      have HST:=times_stops (T:=fun b=>b<w4.heap.size) (n:=5) (by decide) RSB REB RRB (HVVA.out.ext hx4) (show _<_ by omega) (show _<_ by omega) (show _<_ by omega) (fun b hb=>by have:=hb.2;have:=hx4.size;show b<_;omega) (fun b hb=>by have:=hb.2;have:=hx4.size;show b<_;omega) hTw
      have hrd:∀q,rndQ ch (nthX s.ex k).vs s.K q=rdV s ch k q:=fun _=>rfl
      simp only[hrd]at HST
      clear RSB RRB REB HVVA hrd
      go_wp2
      refine wpIn_wide (n:=6).1 ?_
      apply wpIn_rangeFunc_ownF (n:=6) rfl (by decide) (gf:=94) (lb:=#[.pointer (some ⟨NC,0,none⟩),.pointer (some ⟨NC+2,0,none⟩),.pointer (some ⟨NC+1,0,none⟩)]) rfl trivial (enters_of Tryz.func94 (by kernel_rfl) rfl)
        HST agreeK_t (agreeK_b hTw) (Below.refl _ _) (fun _=>rfl)
        (fun (pre:List {x:Nat // x<s.N}) W=>(∀x∈pre,badB s ch ck k x.1=false)∧Below w4.heap.size w4 W)
        (fun c (pre:List {x:Nat // x<s.N}) W=>c=.ret∧(∃x∈pre,badB s ch ck k x.1=true)∧Row W (w.heap.size+1+1+1) 4 [.bool false]∧Row W (w.heap.size+1+1+1+1) 42 [.int .i64 0]∧Agree (fun b=>b<w4.heap.size∧b≠w.heap.size+1+1+1∧b≠w.heap.size+1+1+1+1) w4 W∧Below w.heap.size w W)
        (fun pre A C row h hg hr=>⟨h.1,h.2.grown hg h.2.size (fun k hk=>(hr k hk).1)⟩)
        (fun c pre A C row h hg hr=>by
          obtain ⟨h0,h1,h2,h3,h5,h6⟩:=h
          exact ⟨h0,h1,h2.grown hg (fun e=>by have:=(hr _ e).1;omega),h3.grown hg (fun e=>by have:=(hr _ e).1;omega),h5.trans (.of_grown hg fun b hb e=>by have:=(hr _ e).1;have:=hb.1;omega),h6.grown hg h6.size (fun k hk=>by have:=(hr k hk).1;have:=hx4.size;omega)⟩)
        ⟨fun x hx=>by simp at hx,.refl _ _⟩
      case hassign=>
        intro l x W Kq hK
        have hK:=Lib.hid hK
        gi_wp2
        exact hK.out
      case hbody=>
        rintro l pre ⟨q,hq⟩ W2 ⟨hgd,hB⟩ hlen
        dsimp only
        have HBD:Hid (badB s ch ck k q=(!f.testBit q&&(decide (0≤rdV s ck k q)&&(decide (rdV s ch k q<0)||decide (rdV s ck k q<rdV s ch k q))))):=Lib.hid (by unfold badB;rw[HOB.out q hq])
        have HGD:Hid (badB s ch ck k q=false→∀x∈pre++[(⟨q,hq⟩:{x:Nat // x<s.N})],badB s ch ck k x.1=false):=Lib.hid fun h0 x hx=>by
          rcases List.mem_append.1 hx with h | h
          · exact hgd x h
          · rw[List.mem_singleton.1 h];exact h0
        have PX:=GX.ext hB
        have x0:=PX.cell (j:=0) rfl
        have x1:=PX.cell (j:=1) rfl
        have x2:=PX.cell (j:=2) rfl
        have lX:=PX.lt
        have KF:=Lib.hid (pfaulty_calls (va:=av) (vn:=e.vs.length) (vc:=cv) e.case (hwd.ext hB))
        rw[HFW.out]at KF
        have PM6:=G6.ext hB
        have PM7:=G7.ext hB
        have PMM:=GM.ext hB
        have hBW:=hx4.trans (hB.mono hx4.size)
        have HLK:Hid (∀W5,Below W2.heap.size W2 W5→(Instr.lookup 95 (.map (some (NB+1))) (.int .i64 (q:Int)) false).run Tryz.prog W5=.ok (.int .i64 (rdV s ck k q)) W5):=Lib.hid fun W5 h5=>by
          have:=(((HMM.out.ext hB).ext h5).look Tryz.underlying95 (zero_int1 W5) (x:=(q:Int)) (wf_small (by omega)) false)
          rw[show mapI (limL (rdV s ck k) (List.range s.N)) (q:Int)=some (.int .i64 (rdV s ck k q)) by unfold mapI;rw[HLIM.out q hq];rfl]at this
          exact this
        obtain ⟨x,hx⟩:∃x,x=rdV s ch k q:=⟨_,rfl⟩
        obtain ⟨y,hy⟩:∃y,y=rdV s ck k q:=⟨_,rfl⟩
        rw[←hx]at HBD ⊢
        rw[←hy]at HBD HLK
        have hNl:s.N≤5:=hN5
        clear hgd hx hy PX
        gi_wp2_with fail
        refine ⟨trivial,(CallsIn.inRound l (callsIn_wide.2 KF.out)).mono ?_⟩
        rintro _ w5 ⟨_,rfl,hb5,rfl⟩
        have hlk:=HLK.out w5 hb5
        have KO5:KeepsOthers W2 w5:=keeps_below hb5
        have AG5:Agree (fun b=>b<w4.heap.size) W2 w5:=.of_ext hb5
        replace PM6:=PM6.ext hb5
        replace PM7:=PM7.ext hb5
        replace PMM:=PMM.ext hb5
        have hB5:=hB.trans (hb5.mono hB.size)
        have hBW5:=hBW.trans (hb5.mono hBW.size)
        clear x0 x1 x2 lX KF hb5 HLK hB hBW
        have hq64:(q:Int)<64:=by omega
        have mm:=PMM.cell (j:=0) rfl
        have lm:=PMM.lt
        have DB:=bit_if (a:=f) (p:=q)
        obtain ⟨bt,hbt⟩:∃bt,bt=f.testBit q:=⟨_,rfl⟩
        rw[←hbt]at HBD DB
        cases bt with
        | true=>
          rw[Bool.not_true]at DB
          have HI:=Lib.hid (And.intro KO5 (And.intro AG5 (And.intro (HGD.out (by rw[HBD.out];rfl)) hB5)))
          clear hbt KO5 AG5 hB5 PM6 PM7 PMM
          gi_wp2
          exact HI.out
        | false=>
          rw[Bool.not_false]at DB
          clear hbt
          by_cases hy0:0≤y
          case neg=>
            have d1:decide (0≤y)=false:=decide_eq_false hy0
            have HI:=Lib.hid (And.intro KO5 (And.intro AG5 (And.intro (HGD.out (by rw[HBD.out];simp[d1])) hB5)))
            clear hy0 KO5 AG5 hB5 PM6 PM7 PMM
            gi_wp2
            exact HI.out
          have d1:decide (0≤y)=true:=decide_eq_true hy0
          by_cases hgo:x<0∨y<x
          case neg=>
            have d2:decide (x<0)=false:=decide_eq_false (by omega)
            have d3:decide (y<x)=false:=decide_eq_false (by omega)
            have HI:=Lib.hid (And.intro KO5 (And.intro AG5 (And.intro (HGD.out (by rw[HBD.out];simp[d1,d2,d3])) hB5)))
            clear hy0 hgo KO5 AG5 hB5 PM6 PM7 PMM
            gi_wp2
            exact HI.out
          have HBT:Hid (∃z∈pre++[(⟨q,hq⟩:{x:Nat // x<s.N})],badB s ch ck k z.1=true):=Lib.hid ⟨⟨q,hq⟩,by simp,by
            show badB s ch ck k q=true
            rw[HBD.out];simp;omega⟩
          have HGO:=Lib.hid hgo
          have m6:=PM6.cell (j:=0) rfl
          have m7:=PM7.cell (j:=0) rfl
          have f6:=PM6.free 0
          have f7:=PM7.free 0
          have l6:=PM6.lt
          have l7:=PM7.lt
          have P6:Row ((w5.setCell ⟨w.heap.size+1+1+1,0,none⟩ (.bool false)).setCell ⟨w.heap.size+1+1+1+1,0,none⟩ (.int .i64 0)) (w.heap.size+1+1+1) 4 [.bool false]:=(PM6.set 0 (.bool false)).grown (grownBy_setCell _ _ _ _) (fun e=>by injection e with e;omega)
          have P7:Row ((w5.setCell ⟨w.heap.size+1+1+1,0,none⟩ (.bool false)).setCell ⟨w.heap.size+1+1+1+1,0,none⟩ (.int .i64 0)) (w.heap.size+1+1+1+1) 42 [.int .i64 0]:=(PM7.grown (grownBy_setCell w5 (w.heap.size+1+1+1) 0 (.bool false)) (fun e=>by injection e with e;omega)).set 0 (.int .i64 0)
          have hbf:Below w.heap.size w ((w5.setCell ⟨w.heap.size+1+1+1,0,none⟩ (.bool false)).setCell ⟨w.heap.size+1+1+1+1,0,none⟩ (.int .i64 0)):=(hBW5.setCell (p:=⟨w.heap.size+1+1+1,0,none⟩) (by dsimp only;omega) _).setCell (p:=⟨w.heap.size+1+1+1+1,0,none⟩) (by dsimp only;omega) _
          have q6:=P6.cell (j:=0) rfl
          have q7:=P7.cell (j:=0) rfl
          have HI3:Hid (KeepsOthers W2 ((w5.setCell ⟨w.heap.size+1+1+1,0,none⟩ (.bool false)).setCell ⟨w.heap.size+1+1+1+1,0,none⟩ (.int .i64 0))∧Agree (fun b=>b<w4.heap.size∧b≠w.heap.size+1+1+1∧b≠w.heap.size+1+1+1+1) w4 ((w5.setCell ⟨w.heap.size+1+1+1,0,none⟩ (.bool false)).setCell ⟨w.heap.size+1+1+1+1,0,none⟩ (.int .i64 0))):=Lib.hid ⟨(KO5.trans (.setCell _ _ _)).trans (.setCell _ _ _),(((Agree.of_ext hB5).mono fun b hb=>trivial).trans (.of_grown (grownBy_setCell _ _ _ _) fun b hb e=>by injection e with e;omega)).trans (.of_grown (grownBy_setCell _ _ _ _) fun b hb e=>by injection e with e;omega)⟩
          have HP6:=Lib.hid P6
          have HP7:=Lib.hid P7
          have HBF:=Lib.hid hbf
          clear KO5 AG5 hB5 hBW5 PM6 PM7 PMM P6 P7 hbf q6 q7 hgo hy0
          by_cases hx0:x<0
          · have d2:decide (x<0)=true:=decide_eq_true hx0
            clear hx0
            gi_wp2
            exact ⟨HI3.out.1,rfl,HBT.out,HP6.out,HP7.out,HI3.out.2,HBF.out⟩
          · have d2:decide (x<0)=false:=decide_eq_false hx0
            have d3:decide (y<x)=true:=decide_eq_true (by have:=HGO.out;omega)
            clear hx0
            gi_wp2
            exact ⟨HI3.out.1,rfl,HBT.out,HP6.out,HP7.out,HI3.out.2,HBF.out⟩
      case hstop=>
        rintro D c pre W2 hD hSp ⟨rfl,⟨z,hz,hzb⟩,P6,P7,hA,hBW⟩ hK
        have RX:Hid (mt=(false,0)):=Lib.hid (by rw[RE.out,HBB.out k z.1 hlt z.2 hzb])
        have hne:∀b e xs,Row w4 b e xs→∀D,w4.heap[D]? =some (.deferred (some []))→D≠b:=fun b e xs hR D hD e=>by
          unfold Row at hR;rw[e]at hD;rw[hD]at hR;cases hR
        have HMW:=HM4.out.agree hA (fun D hD=>⟨(Array.getElem?_eq_some_iff.1 hD).1,hne _ _ _ G6 D hD,hne _ _ _ G7 D hD⟩)
        have HMC:=Lib.hid (HM4.out.cons (D:=D) HMW hD (by have:=hx4.size;omega) hK)
        have HB:=Lib.hid hBW
        have H6:=Lib.hid P6
        have H7:=Lib.hid P7
        clear P6 P7 hA hBW HMW hK hne
        gi_wp2
        refine bodyM_ret (leaves_marks HMC.out HB.out.size fun W' hbel hrow=>?_)
        have q6:=(hrow _ _ _ H6.out).cell (j:=0) rfl
        have q7:=(hrow _ _ _ H7.out).cell (j:=0) rfl
        exact ⟨.tuple #[.bool false,.int .i64 0],by simp[results,Tryz.results33,go_sem,q6,q7],.mk (HB.out.trans hbel) (by rw[RX.out];rfl)⟩
      case hdone=>
        rintro D l W2 hD hS ⟨hgd,hB⟩ hK
        have HSN:Hid (soonTo s ch ck (k+1)=true):=Lib.hid (by
          rw[soonTo_succ,HT.out,Bool.true_and]
          refine List.all_eq_true.2 fun q hq=>?_
          rw[←hS]at hq
          obtain ⟨x,hx,rfl⟩:=List.mem_map.1 hq
          rw[hgd x hx];rfl)
        have HMC:=Lib.hid (HM4.out.cons (D:=D) (HM4.out.agree (T:=fun b=>b<w4.heap.size) (.of_below hB fun b hb _=>hb) (fun D hD=>(Array.getElem?_eq_some_iff.1 hD).1)) hD (by have:=hx4.size;omega) hK)
        have F0:=G0.ext hB
        have F1:=G1.ext hB
        have F2:=G2.ext hB
        have F6:=G6.ext hB
        have F7:=G7.ext hB
        have hBW:=hx4.trans (hB.mono hx4.size)
        clear hgd hB hK G0 G1 G2 G6 G7 HM4
        go_wp2
        refine ⟨?rel,?measure⟩
        case rel=>
          (repeat apply Exists.intro)
          refine ⟨?hr,?he⟩
          case he=>repeat' (first | exact rfl | apply And.intro)
          exact ⟨k+1,by omega,by go_num,HSN,hBW,F0,F1,F2,F6,F7,HMC.out⟩
        case measure=>simp[intOf];omega
end Go.Proofs.YtcopehiceihdaaaGreat
