/- Part of the proof that the laws of chapter 45 answer true for every input. -/
import Derived.Test.YtcopehiceihdaaaGreatPCh44
set_option linter.unusedSimpArgs false
set_option linter.unnecessarySimpa false
set_option linter.unusedVariables false
set_option maxRecDepth 100000
set_option maxHeartbeats 40000000
namespace Go.Proofs.YtcopehiceihdaaaGreat
open Go.RowKit
attribute [local go_sem ↓] Go.wp_at_zero Go.wp_at_succ
theorem ints_cells0 {S:Nat→Prop} {w:World} {a:Option Addr} {n cap:Nat} {l:List Int} (h:Ints S w (.slice a n cap) l):∀j,j<l.length→w.cell? (adr a j)=some (.int .i64 (nth l j)):=by
  obtain ⟨a0,cap0,e,had,hl,hm,hc,hf⟩:=h
  simp only[Value.slice.injEq]at e
  obtain ⟨rfl,rfl,rfl⟩:=e
  exact hc
theorem indexNo_quiet {S:Nat→Prop} {w:World} {va:Value} {l:List Int} (ha:Ints S w va l) {g:Nat} {cp:Value}
    (eg:∀args w,(callFunc g args).run Tryz.prog w=.ok (.enter g args) w)
    (hp:∀W,QW w W→∀k,k<l.length→Calls Tryz.prog g #[.int .i64 (nth l k),cp] W (QuietP W (.bool false))):
    Calls Tryz.prog 95 #[va,.func (.func g) #[] #[cp]] w (QuietP w (.int .i64 (-1))):=by
  obtain ⟨a,cap,rfl,ad,l1,lm⟩:=ha.form
  unfold maxLen at lm
  obtain ⟨i0,hi,hz0,hz1,hz2⟩:=info_parts info_int
  have HQA:=Lib.hid (idx_one Tryz.underlying36 hi hz1 ad)
  have HC:=Lib.hid (ints_cells0 ha)
  have HP:=Lib.hid (fun W hW k hk=>(hp W hW k hk).mono fun _ _ h=>h.take)
  clear hi hz0 hz1 hz2 ha hp
  go_enter Tryz.func95,Tryz.ntmps95
  go_wp2
  go_loopw [8] (fun i wr=>∃k:Nat,k≤l.length∧i=.int .i64 k∧QW w wr) (fun i _=>l.length - (intOf i).toNat)
  case atStart=>exact ⟨0,Nat.zero_le _,rfl,.refl _⟩
  case round=>
    obtain ⟨k,hk,rfl,hQ⟩:=hrel
    by_cases hlt:k<l.length
    · have q:=HQA.out k hlt
      have cu:=cells_at ad hQ.ext HC.out k hlt
      obtain ⟨x,hx⟩:∃x,x=nth l k:=⟨_,rfl⟩
      have KP:=Lib.hid (HP.out wr hQ k hlt)
      rw[←hx]at cu
      rw[←hx]at KP
      clear hx
      go_wp2_with fail
      refine KP.out.mono ?_
      rintro _ w2 ⟨_,rfl,hq2,rfl⟩
      have hQ2:=hQ.trans hq2
      clear KP hQ hq2 cu
      go_wp2
      go_roundw
      case rel=>exact ⟨k+1,by omega,by go_num,hQ2⟩
      case measure=>simp[intOf];omega
    · obtain rfl:k=l.length:=by omega
      go_wp2
      go_ret
      exact .fin rfl hQ
theorem containsNo_quiet {S:Nat→Prop} {w:World} {va:Value} {l:List Int} (ha:Ints S w va l) {g:Nat} {cp:Value}
    (eg:∀args w,(callFunc g args).run Tryz.prog w=.ok (.enter g args) w)
    (hp:∀W,QW w W→∀k,k<l.length→Calls Tryz.prog g #[.int .i64 (nth l k),cp] W (QuietP W (.bool false))):
    Calls Tryz.prog 54 #[va,.func (.func g) #[] #[cp]] w (QuietP w (.bool false)):=by
  have K:=Lib.hid ((indexNo_quiet ha eg hp).mono fun _ _ h=>h.take)
  obtain ⟨a,cap,rfl,_⟩:=ha.form
  clear hp ha eg
  go_enter Tryz.func54,Tryz.ntmps54
  go_wp2_with fail
  refine K.out.mono ?_
  rintro _ w2 ⟨_,rfl,hq2,rfl⟩
  clear K
  go_wp2
  go_ret
  exact .fin rfl hq2
theorem outside_quiet {w:World} {B n c:Nat} {a:Option Addr} {x:Nat} (h:w.cell? ⟨B,8,none⟩=some (.slice a n c)) (hx:x<n):
    Calls Tryz.prog 55 #[.int .i64 x,.pointer (some ⟨B,0,none⟩)] w (QuietP w (.bool false)):=by
  have hb:=World.block_lt_of_cell? _ _ h
  have h0:decide ((x:Int)<0)=false:=by simp
  have h1:decide ((n:Int)≤(x:Int))=false:=by simp;omega
  have h2:¬(n:Int)≤(x:Int):=by omega
  go_enter Tryz.func55,Tryz.ntmps55
  go_wp2
  go_ret
  exact .fin (by simp) (.refl _)
def BuiltR (p:ProbD) (w':World) (r:Value):Prop:=(∃s:SysF,s.p=p∧verE s=0∧FewP s.p∧∃v,r=.tuple #[v,.bool true,.bool true]∧SysV TT w' v s)∨r=.tuple #[.agg #[.int .i64 0,.int .i64 0,.int .i64 0,.slice none 0 0,.int .i64 0,.slice none 0 0,.int .i64 0,.int .i64 0,.slice none 0 0,.slice none 0 0],.bool false,.bool true]
theorem pbuild_okC {S:Nat→Prop} {w:World} {vc vs:Value} {p:ProbD} (hc:Sl kCase S w vc p.cs) (hs:Sl (kSl (kFlat 8)) S w vs p.st) (hf:PFew p) (h0:buildE p=0):
    Calls Tryz.prog 37 #[.agg #[.int .i64 p.n,.int .i64 p.ins,.int .i64 p.outs,vc,.int .i64 p.an,vs,.int .i64 p.rounds]] w (Post w fun w' r=>∃v,r=.tuple #[v,.int .i64 0]∧SysV (fun b=>(S b∧b<w.heap.size)∨w.heap.size≤b) w' v p.full):=by
  obtain ⟨h1,h2⟩:=buildE_zero h0
  obtain ⟨N,hok⟩:=probOK h1
  obtain ⟨h3,h4⟩:=hf.small h1 h2
  obtain ⟨n,ins,outs,cs,an,st,rounds⟩:=p
  obtain ⟨K,hK⟩:∃K:Nat,rounds=K:=⟨rounds.toNat,by have:=hok.r;dsimp only at this;omega⟩
  have e1:=hok.n
  have e2:=hok.an
  dsimp only at e1 e2
  subst e1 e2 hK
  exact pbuild_okS hc.block hs.block hok hf.cp h1 h3 (by dsimp only at h4;omega)
theorem full_ok {p:ProbD} (h:buildE p=0):verE p.full=0:=by
  unfold verE
  have e:p.full.p=p:=rfl
  rw[e,if_pos h,if_pos ⟨rfl,rfl,rfl⟩]
theorem built_calls {S:Nat→Prop} {w:World} {vc vs:Value} {p:ProbD} (hc:Sl kCase S w vc p.cs) (hs:Sl (kSl (kFlat 8)) S w vs p.st):
    Calls Tryz.prog 23 #[.agg #[.int .i64 p.n,.int .i64 p.ins,.int .i64 p.outs,vc,.int .i64 p.an,vs,.int .i64 p.rounds]] w (Post w (BuiltR p)):=by
  obtain ⟨ca,cc,rfl,_⟩:=hc.form
  obtain ⟨sa,sc,rfl,_⟩:=hs.form
  have KR:Hid (∀W,Below w.heap.size w W→Calls Tryz.prog 53 #[.agg #[.int .i64 p.n,.int .i64 p.ins,.int .i64 p.outs,.slice ca p.cs.length cc,.int .i64 p.an,.slice sa p.st.length sc,.int .i64 p.rounds]] W (Post W fun _ r=>Tells (RightP p) r)):=Lib.hid fun W hW=>right_calls (hc.ext hW) (hs.ext hW)
  have KB:Hid (RightP p→∀W,Below w.heap.size w W→Calls Tryz.prog 37 #[.agg #[.int .i64 p.n,.int .i64 p.ins,.int .i64 p.outs,.slice ca p.cs.length cc,.int .i64 p.an,.slice sa p.st.length sc,.int .i64 p.rounds]] W (Post W fun w' r=>∃v,r=.tuple #[v,.int .i64 0]∧SysV (fun b=>((S b∧b<w.heap.size)∧b<W.heap.size)∨W.heap.size≤b) w' v p.full)):=Lib.hid fun hr W hW=>pbuild_okC (hc.block.ext hW) (hs.block.ext hW) hr.1.few hr.2
  have ex:=ext_alloc' (ext_alloc w (.cells #[.int .i64 p.n,.int .i64 p.ins,.int .i64 p.outs,.slice ca p.cs.length cc,.int .i64 p.an,.slice sa p.st.length sc,.int .i64 p.rounds] 29)) (.cells #[.int .i64 0,.int .i64 0,.int .i64 0,.slice none 0 0,.int .i64 0,.slice none 0 0,.int .i64 0,.int .i64 0,.slice none 0 0,.slice none 0 0] 35)
  have R1:=(row_new w [.int .i64 p.n,.int .i64 p.ins,.int .i64 p.outs,.slice ca p.cs.length cc,.int .i64 p.an,.slice sa p.st.length sc,.int .i64 p.rounds] 29).alloc (.cells #[.int .i64 0,.int .i64 0,.int .i64 0,.slice none 0 0,.int .i64 0,.slice none 0 0,.int .i64 0,.int .i64 0,.slice none 0 0,.slice none 0 0] 35)
  have RS:=row_new (w.alloc (.cells #[.int .i64 p.n,.int .i64 p.ins,.int .i64 p.outs,.slice ca p.cs.length cc,.int .i64 p.an,.slice sa p.st.length sc,.int .i64 p.rounds] 29)) [.int .i64 0,.int .i64 0,.int .i64 0,.slice none 0 0,.int .i64 0,.slice none 0 0,.int .i64 0,.int .i64 0,.slice none 0 0,.slice none 0 0] 35
  rw[World.size_alloc]at RS
  obtain ⟨S2,hS2'⟩:∃S2,S2=w.heap.size+1:=⟨_,rfl⟩
  have hS2:w.heap.size≤S2:=by omega
  rw[←hS2']at RS
  have HS2:=Lib.hid hS2'
  have hcl:=hc.few
  clear hc hs hS2'
  have c0:=R1.cell (j:=0) rfl
  have c1:=R1.cell (j:=1) rfl
  have c2:=R1.cell (j:=2) rfl
  have c3:=R1.cell (j:=3) rfl
  have c4:=R1.cell (j:=4) rfl
  have c5:=R1.cell (j:=5) rfl
  have c6:=R1.cell (j:=6) rfl
  have lR1:=R1.lt
  go_enter Tryz.func23,Tryz.ntmps23
  go_wp2_with fail
  refine (KR.out _ ex).mono ?_
  rintro _ w1 ⟨_,rfl,hb1,b0,rfl,hb0⟩
  replace R1:=R1.ext hb1
  replace RS:=RS.ext hb1
  replace ex:=ext_trans ex hb1
  clear c0 c1 c2 c3 c4 c5 c6 lR1 hb1 KR
  rw[←HS2.out]
  cases b0 with
  | false=>
    clear R1
    have d0:=RS.cell (j:=0) rfl
    have d1:=RS.cell (j:=1) rfl
    have d2:=RS.cell (j:=2) rfl
    have d3:=RS.cell (j:=3) rfl
    have d4:=RS.cell (j:=4) rfl
    have d5:=RS.cell (j:=5) rfl
    have d6:=RS.cell (j:=6) rfl
    have d7:=RS.cell (j:=7) rfl
    have d8:=RS.cell (j:=8) rfl
    have d9:=RS.cell (j:=9) rfl
    have f0:=RS.free 0
    have f1:=RS.free 1
    have f2:=RS.free 2
    have f3:=RS.free 3
    have f4:=RS.free 4
    have f5:=RS.free 5
    have f6:=RS.free 6
    have f7:=RS.free 7
    have f8:=RS.free 8
    have f9:=RS.free 9
    have l2:=RS.lt
    have HRS:=Lib.hid (RS.sets [(0,.int .i64 0),(1,.int .i64 0),(2,.int .i64 0),(3,.slice none 0 0),(4,.int .i64 0),(5,.slice none 0 0),(6,.int .i64 0),(7,.int .i64 0),(8,.slice none 0 0),(9,.slice none 0 0)])
    have HBS:=Lib.hid (sets_below hS2 [(0,.int .i64 0),(1,.int .i64 0),(2,.int .i64 0),(3,.slice none 0 0),(4,.int .i64 0),(5,.slice none 0 0),(6,.int .i64 0),(7,.int .i64 0),(8,.slice none 0 0),(9,.slice none 0 0)] w1 ex)
    have HAS:=Lib.hid (sets_agree S2 [(0,.int .i64 0),(1,.int .i64 0),(2,.int .i64 0),(3,.slice none 0 0),(4,.int .i64 0),(5,.slice none 0 0),(6,.int .i64 0),(7,.int .i64 0),(8,.slice none 0 0),(9,.slice none 0 0)] w1)
    obtain ⟨W7,hW7⟩:∃W7,W7=sets S2 [(0,.int .i64 0),(1,.int .i64 0),(2,.int .i64 0),(3,.slice none 0 0),(4,.int .i64 0),(5,.slice none 0 0),(6,.int .i64 0),(7,.int .i64 0),(8,.slice none 0 0),(9,.slice none 0 0)] w1:=⟨_,rfl⟩
    rw[←hW7]at HRS HBS HAS
    unfold sets at hW7
    simp only[List.foldl_cons,List.foldl_nil]at hW7
    clear RS
    go_wp2
    rw[←hW7]
    clear hW7
    have q0:W7.cell? ⟨S2,0,none⟩=some _:=HRS.out.cell (j:=0) rfl
    have q1:W7.cell? ⟨S2,1,none⟩=some _:=HRS.out.cell (j:=1) rfl
    have q2:W7.cell? ⟨S2,2,none⟩=some _:=HRS.out.cell (j:=2) rfl
    have q3:W7.cell? ⟨S2,3,none⟩=some _:=HRS.out.cell (j:=3) rfl
    have q4:W7.cell? ⟨S2,4,none⟩=some _:=HRS.out.cell (j:=4) rfl
    have q5:W7.cell? ⟨S2,5,none⟩=some _:=HRS.out.cell (j:=5) rfl
    have q6:W7.cell? ⟨S2,6,none⟩=some _:=HRS.out.cell (j:=6) rfl
    have q7:W7.cell? ⟨S2,7,none⟩=some _:=HRS.out.cell (j:=7) rfl
    have q8:W7.cell? ⟨S2,8,none⟩=some _:=HRS.out.cell (j:=8) rfl
    have q9:W7.cell? ⟨S2,9,none⟩=some _:=HRS.out.cell (j:=9) rfl
    refine bodyPost_ret (v:=.tuple #[.agg #[.int .i64 0,.int .i64 0,.int .i64 0,.slice none 0 0,.int .i64 0,.slice none 0 0,.int .i64 0,.int .i64 0,.slice none 0 0,.slice none 0 0],.bool false,.bool true]) (by simp[results,Tryz.results23,go_sem,q0,q1,q2,q3,q4,q5,q6,q7,q8,q9]) rfl ?_
    exact .mk HBS.out (.inr rfl)
  | true=>
  have HR:=Lib.hid (hb0 rfl)
  clear hb0
  have c0:=R1.cell (j:=0) rfl
  have c1:=R1.cell (j:=1) rfl
  have c2:=R1.cell (j:=2) rfl
  have c3:=R1.cell (j:=3) rfl
  have c4:=R1.cell (j:=4) rfl
  have c5:=R1.cell (j:=5) rfl
  have c6:=R1.cell (j:=6) rfl
  have lR1:=R1.lt
  have lRS:=RS.lt
  go_wp2_with fail
  refine (KB.out HR.out _ ex).mono ?_
  rintro _ w3 ⟨bv,rfl,hb3,bw,rfl,hsy0⟩
  have hlt1:=RS.lt
  have hsy:SysV (fun b=>b≠S2) w3 bw p.full:=hsy0.mono fun b hb=>by have:=HS2.out;rcases hb with h | h<;>omega
  clear hsy0
  have KV:Hid (∀W,Below w3.heap.size w3 W→Calls Tryz.prog 41 #[bw] W (Post W fun _ r=>r=.int .i64 0)):=Lib.hid fun W hW=>by
    have:=rverify_calls (hsy.ext hW) HR.out.1.few.small
    rw[full_ok HR.out.2]at this;exact this
  have hg:=good_sys (full_ok HR.out.2) hsy.moves8
  have hfN:p.full.N=p.n:=by have:=hg.pok.n;exact this.symm
  have hfK:p.full.K=p.rounds:=by have:=hg.rnd;exact this.symm
  have HV:=Lib.hid fun e (he:e<p.full.ex.length) q (hq:q<p.full.N) k (hk:k≤p.full.K)=>vAt_lt hg he hk hq
  have HLN:Hid (∀e,e<p.full.ex.length→(nthX p.full.ex e).vs.length=p.full.K+1∧(∀k,k≤p.full.K→(nthL (nthX p.full.ex e).vs k).length=p.full.N)∧0≤(nthX p.full.ex e).case∧(nthX p.full.ex e).case<p.cs.length):=Lib.hid fun e he=>by
    obtain ⟨c,hc⟩:=hg.ex e he
    have h1:c<p.cs.length:=hc.clt
    exact ⟨hc.len,hc.rows,by rw[hc.case];omega,by rw[hc.case];omega⟩
  have hK6:=hg.K6
  clear hg
  obtain ⟨vc2,vs2,vt2,vx2,rfl,hc2,hs2',ht2,hx2⟩:=hsy
  obtain ⟨ca2,cc2,rfl,_⟩:=hc2.form
  obtain ⟨sa2,sc2,rfl,_⟩:=hs2'.form
  obtain ⟨ta2,tc2,rfl,_⟩:=ht2.form
  obtain ⟨xa2,xc2,rfl,xad,_⟩:=hx2.form2
  have e9:p.full.p.n=p.n∧p.full.p.ins=p.ins∧p.full.p.outs=p.outs∧p.full.p.an=p.an∧p.full.p.rounds=p.rounds∧p.full.tn=p.n:=⟨rfl,rfl,rfl,rfl,rfl,rfl⟩
  rw[e9.1,e9.2.1,e9.2.2.1,e9.2.2.2.1,e9.2.2.2.2.1,e9.2.2.2.2.2]at KV ⊢
  have hs2:=ex.size
  have hR3:=R1.ext hb3
  replace RS:=RS.ext hb3
  replace ex:=ext_trans ex hb3
  have e3:=ext_alloc w3 (.cells #[.int .i64 p.n,.int .i64 p.ins,.int .i64 p.outs,.slice ca2 p.full.p.cs.length cc2,.int .i64 p.an,.slice sa2 p.full.p.st.length sc2,.int .i64 p.rounds,.int .i64 p.n,.slice ta2 p.full.tab.length tc2,.slice xa2 p.full.ex.length xc2] 35)
  have HSY:Hid (SysV (fun b=>b≠S2) (w3.alloc (.cells #[.int .i64 p.n,.int .i64 p.ins,.int .i64 p.outs,.slice ca2 p.full.p.cs.length cc2,.int .i64 p.an,.slice sa2 p.full.p.st.length sc2,.int .i64 p.rounds,.int .i64 p.n,.slice ta2 p.full.tab.length tc2,.slice xa2 p.full.ex.length xc2] 35)) (.agg #[.int .i64 p.n,.int .i64 p.ins,.int .i64 p.outs,.slice ca2 p.full.p.cs.length cc2,.int .i64 p.an,.slice sa2 p.full.p.st.length sc2,.int .i64 p.rounds,.int .i64 p.n,.slice ta2 p.full.tab.length tc2,.slice xa2 p.full.ex.length xc2]) p.full):=Lib.hid ⟨_,_,_,_,rfl,hc2.ext e3,hs2'.ext e3,ht2.ext e3,hx2.ext e3⟩
  have HX:=Lib.hid (hx2.ext e3)
  have R5:=row_new w3 [.int .i64 p.n,.int .i64 p.ins,.int .i64 p.outs,.slice ca2 p.full.p.cs.length cc2,.int .i64 p.an,.slice sa2 p.full.p.st.length sc2,.int .i64 p.rounds,.int .i64 p.n,.slice ta2 p.full.tab.length tc2,.slice xa2 p.full.ex.length xc2] 35
  replace RS:=RS.alloc (.cells #[.int .i64 p.n,.int .i64 p.ins,.int .i64 p.outs,.slice ca2 p.full.p.cs.length cc2,.int .i64 p.an,.slice sa2 p.full.p.st.length sc2,.int .i64 p.rounds,.int .i64 p.n,.slice ta2 p.full.tab.length tc2,.slice xa2 p.full.ex.length xc2] 35)
  replace R1:=hR3.alloc (.cells #[.int .i64 p.n,.int .i64 p.ins,.int .i64 p.outs,.slice ca2 p.full.p.cs.length cc2,.int .i64 p.an,.slice sa2 p.full.p.st.length sc2,.int .i64 p.rounds,.int .i64 p.n,.slice ta2 p.full.tab.length tc2,.slice xa2 p.full.ex.length xc2] 35)
  replace ex:=ext_alloc' ex (.cells #[.int .i64 p.n,.int .i64 p.ins,.int .i64 p.outs,.slice ca2 p.full.p.cs.length cc2,.int .i64 p.an,.slice sa2 p.full.p.st.length sc2,.int .i64 p.rounds,.int .i64 p.n,.slice ta2 p.full.tab.length tc2,.slice xa2 p.full.ex.length xc2] 35)
  have KV2:Hid (∀W,Below (w3.alloc (.cells #[.int .i64 p.n,.int .i64 p.ins,.int .i64 p.outs,.slice ca2 p.full.p.cs.length cc2,.int .i64 p.an,.slice sa2 p.full.p.st.length sc2,.int .i64 p.rounds,.int .i64 p.n,.slice ta2 p.full.tab.length tc2,.slice xa2 p.full.ex.length xc2] 35)).heap.size (w3.alloc (.cells #[.int .i64 p.n,.int .i64 p.ins,.int .i64 p.outs,.slice ca2 p.full.p.cs.length cc2,.int .i64 p.an,.slice sa2 p.full.p.st.length sc2,.int .i64 p.rounds,.int .i64 p.n,.slice ta2 p.full.tab.length tc2,.slice xa2 p.full.ex.length xc2] 35)) W→Calls Tryz.prog 41 #[.agg #[.int .i64 p.n,.int .i64 p.ins,.int .i64 p.outs,.slice ca2 p.full.p.cs.length cc2,.int .i64 p.an,.slice sa2 p.full.p.st.length sc2,.int .i64 p.rounds,.int .i64 p.n,.slice ta2 p.full.tab.length tc2,.slice xa2 p.full.ex.length xc2]] W (Post W fun _ r=>r=.int .i64 0)):=Lib.hid fun W hW=>KV.out W (ext_trans e3 hW)
  have HQ:=Lib.hid (idx_exec xad)
  have hxm:=hx2.few
  clear c0 c1 c2 c3 c4 c5 c6 lR1 lRS hb3 KB hR3 hc2 hs2' ht2 hx2 e9 KV e3 xad
  go_upto_region 4 with fail
  obtain ⟨w5,hw5⟩:∃w5,w5=w3.alloc (.cells #[.int .i64 p.n,.int .i64 p.ins,.int .i64 p.outs,.slice ca2 p.full.p.cs.length cc2,.int .i64 p.an,.slice sa2 p.full.p.st.length sc2,.int .i64 p.rounds,.int .i64 p.n,.slice ta2 p.full.tab.length tc2,.slice xa2 p.full.ex.length xc2] 35):=⟨_,rfl⟩
  obtain ⟨B5,hB5⟩:∃B5,B5=w3.heap.size:=⟨_,rfl⟩
  rw[←hw5]at R5 RS ex HSY HX KV2 R1
  rw[←hB5]at R5
  rw[←hw5,←hB5]
  clear hw5 hB5
  have c0:=R5.cell (j:=0) rfl
  have c1:=R5.cell (j:=1) rfl
  have c2:=R5.cell (j:=2) rfl
  have c3:=R5.cell (j:=3) rfl
  have c4:=R5.cell (j:=4) rfl
  have c5:=R5.cell (j:=5) rfl
  have c6:=R5.cell (j:=6) rfl
  have c7:=R5.cell (j:=7) rfl
  have c8:=R5.cell (j:=8) rfl
  have c9:=R5.cell (j:=9) rfl
  have l5:=R5.lt
  go_wp2_with fail
  refine (KV2.out _ (Below.refl _ w5)).mono ?_
  rintro _ w6 ⟨_,rfl,hb6,rfl⟩
  replace R5:=R5.ext hb6
  replace RS:=RS.ext hb6
  replace R1:=R1.ext hb6
  replace ex:=ext_trans ex hb6
  replace HSY:=Lib.hid (HSY.out.ext hb6)
  replace HX:=Lib.hid (HX.out.ext hb6)
  have HR5:=Lib.hid R5
  have HRS:=Lib.hid RS
  have HR1:=Lib.hid R1
  clear c0 c1 c2 c3 c4 c5 c6 c7 c8 c9 l5 KV2 hb6 hs2 RS R1
  have c9:=R5.cell (j:=9) rfl
  have l5:=R5.lt
  have hex:=Lib.hid ex
  clear R5 ex
  go_wp2
  clear c9 l5
  go_loopw [7,9,11,31] (fun ok _ _ i wr=>∃k:Nat,k≤p.full.ex.length∧i=.int .i64 k∧ok=.bool true∧Below w6.heap.size w6 wr) (fun _ _ _ i _=>p.full.ex.length - (intOf i).toNat)
  case atStart=>exact ⟨0,Nat.zero_le _,rfl,rfl,Below.refl _ w6⟩
  case round=>
    obtain ⟨k,hk,rfl,rfl,hb⟩:=hrel
    by_cases hlt:k<p.full.ex.length
    case neg=>
      obtain rfl:k=p.full.ex.length:=by omega
      have RS:=HRS.out.ext hb
      have R5:=HR5.out.ext hb
      have ex:=ext_trans hex.out hb
      have HSZ:Hid (SysV (fun b=>b≠S2) wr (.agg #[.int .i64 p.n,.int .i64 p.ins,.int .i64 p.outs,.slice ca2 p.full.p.cs.length cc2,.int .i64 p.an,.slice sa2 p.full.p.st.length sc2,.int .i64 p.rounds,.int .i64 p.n,.slice ta2 p.full.tab.length tc2,.slice xa2 p.full.ex.length xc2]) p.full):=Lib.hid (HSY.out.ext hb)
      have c0:=R5.cell (j:=0) rfl
      have c1:=R5.cell (j:=1) rfl
      have c2:=R5.cell (j:=2) rfl
      have c3:=R5.cell (j:=3) rfl
      have c4:=R5.cell (j:=4) rfl
      have c5:=R5.cell (j:=5) rfl
      have c6:=R5.cell (j:=6) rfl
      have c7:=R5.cell (j:=7) rfl
      have c8:=R5.cell (j:=8) rfl
      have c9:=R5.cell (j:=9) rfl
      have l5:=R5.lt
      clear R5
      have d0:=RS.cell (j:=0) rfl
      have d1:=RS.cell (j:=1) rfl
      have d2:=RS.cell (j:=2) rfl
      have d3:=RS.cell (j:=3) rfl
      have d4:=RS.cell (j:=4) rfl
      have d5:=RS.cell (j:=5) rfl
      have d6:=RS.cell (j:=6) rfl
      have d7:=RS.cell (j:=7) rfl
      have d8:=RS.cell (j:=8) rfl
      have d9:=RS.cell (j:=9) rfl
      have f0:=RS.free 0
      have f1:=RS.free 1
      have f2:=RS.free 2
      have f3:=RS.free 3
      have f4:=RS.free 4
      have f5:=RS.free 5
      have f6:=RS.free 6
      have f7:=RS.free 7
      have f8:=RS.free 8
      have f9:=RS.free 9
      have l2:=RS.lt
      have HRS:=Lib.hid (RS.sets [(0,.int .i64 p.n),(1,.int .i64 p.ins),(2,.int .i64 p.outs),(3,.slice ca2 p.full.p.cs.length cc2),(4,.int .i64 p.an),(5,.slice sa2 p.full.p.st.length sc2),(6,.int .i64 p.rounds),(7,.int .i64 p.n),(8,.slice ta2 p.full.tab.length tc2),(9,.slice xa2 p.full.ex.length xc2)])
      have HBS:=Lib.hid (sets_below hS2 [(0,.int .i64 p.n),(1,.int .i64 p.ins),(2,.int .i64 p.outs),(3,.slice ca2 p.full.p.cs.length cc2),(4,.int .i64 p.an),(5,.slice sa2 p.full.p.st.length sc2),(6,.int .i64 p.rounds),(7,.int .i64 p.n),(8,.slice ta2 p.full.tab.length tc2),(9,.slice xa2 p.full.ex.length xc2)] wr ex)
      have HAS:=Lib.hid (sets_agree S2 [(0,.int .i64 p.n),(1,.int .i64 p.ins),(2,.int .i64 p.outs),(3,.slice ca2 p.full.p.cs.length cc2),(4,.int .i64 p.an),(5,.slice sa2 p.full.p.st.length sc2),(6,.int .i64 p.rounds),(7,.int .i64 p.n),(8,.slice ta2 p.full.tab.length tc2),(9,.slice xa2 p.full.ex.length xc2)] wr)
      obtain ⟨W7,hW7⟩:∃W7,W7=sets S2 [(0,.int .i64 p.n),(1,.int .i64 p.ins),(2,.int .i64 p.outs),(3,.slice ca2 p.full.p.cs.length cc2),(4,.int .i64 p.an),(5,.slice sa2 p.full.p.st.length sc2),(6,.int .i64 p.rounds),(7,.int .i64 p.n),(8,.slice ta2 p.full.tab.length tc2),(9,.slice xa2 p.full.ex.length xc2)] wr:=⟨_,rfl⟩
      rw[←hW7]at HRS HBS HAS
      unfold sets at hW7
      simp only[List.foldl_cons,List.foldl_nil]at hW7
      clear RS
      go_wp2
      rw[←hW7]
      clear hW7
      have q0:W7.cell? ⟨S2,0,none⟩=some _:=HRS.out.cell (j:=0) rfl
      have q1:W7.cell? ⟨S2,1,none⟩=some _:=HRS.out.cell (j:=1) rfl
      have q2:W7.cell? ⟨S2,2,none⟩=some _:=HRS.out.cell (j:=2) rfl
      have q3:W7.cell? ⟨S2,3,none⟩=some _:=HRS.out.cell (j:=3) rfl
      have q4:W7.cell? ⟨S2,4,none⟩=some _:=HRS.out.cell (j:=4) rfl
      have q5:W7.cell? ⟨S2,5,none⟩=some _:=HRS.out.cell (j:=5) rfl
      have q6:W7.cell? ⟨S2,6,none⟩=some _:=HRS.out.cell (j:=6) rfl
      have q7:W7.cell? ⟨S2,7,none⟩=some _:=HRS.out.cell (j:=7) rfl
      have q8:W7.cell? ⟨S2,8,none⟩=some _:=HRS.out.cell (j:=8) rfl
      have q9:W7.cell? ⟨S2,9,none⟩=some _:=HRS.out.cell (j:=9) rfl
      refine bodyPost_ret (v:=.tuple #[.agg #[.int .i64 p.n,.int .i64 p.ins,.int .i64 p.outs,.slice ca2 p.full.p.cs.length cc2,.int .i64 p.an,.slice sa2 p.full.p.st.length sc2,.int .i64 p.rounds,.int .i64 p.n,.slice ta2 p.full.tab.length tc2,.slice xa2 p.full.ex.length xc2],.bool true,.bool true]) (by simp[results,Tryz.results23,go_sem,q0,q1,q2,q3,q4,q5,q6,q7,q8,q9]) rfl ?_
      exact .mk HBS.out (.inl ⟨p.full,rfl,full_ok HR.out.2,HR.out.1,_,rfl,(HSZ.out.agree HAS.out).mono fun _ _=>trivial⟩)
    obtain ⟨hvl,hln,hc0,hc1⟩:=HLN.out k hlt
    have HVW:=Lib.hid (HV.out k hlt)
    have q1:=HQ.out k hlt
    obtain ⟨a1,c1,a3,c3,z0,z1,z2,i1,i2⟩:=HX.out.exec hlt
    replace z0:=cell_ext z0 hb
    replace z1:=cell_ext z1 hb
    replace z2:=cell_ext z2 hb
    have i3:=i2.ext hb
    have HVA:Hid (∀q k',nth (nthL (nthX p.full.ex k).vs k') q=nth (nthL (nthX p.full.ex k).vs k') q):=Lib.hid fun _ _=>rfl
    obtain ⟨x,hx⟩:∃x,x=nthX p.full.ex k:=⟨_,rfl⟩
    have HVB:Hid (∀q,q<p.full.N→∀k',k'≤p.full.K→∃z:Nat,nth (nthL x.vs k') q=z∧z<p.full.tab.length):=Lib.hid fun q hq k' hk'=>by rw[hx];exact ⟨_,HVW.out q hq k' hk'⟩
    rw[←hx]at z0 z1 z2 i3 hvl hln hc0 hc1
    have bk:=World.block_lt_of_cell? _ _ z0
    have RX:=row_new wr [.int .i64 x.case,.slice a1 x.word.length c1,.slice a3 x.vs.length c3] 68
    have R5:=(HR5.out.ext hb).alloc (.cells #[.int .i64 x.case,.slice a1 x.word.length c1,.slice a3 x.vs.length c3] 68)
    have R1:=(HR1.out.ext hb).alloc (.cells #[.int .i64 x.case,.slice a1 x.word.length c1,.slice a3 x.vs.length c3] 68)
    have exA:=ext_trans hb (ext_alloc wr (.cells #[.int .i64 x.case,.slice a1 x.word.length c1,.slice a3 x.vs.length c3] 68))
    have i4:=Lib.hid (i3.ext (ext_alloc wr (.cells #[.int .i64 x.case,.slice a1 x.word.length c1,.slice a3 x.vs.length c3] 68)))
    have d1:decide (0≤x.case)=true:=decide_eq_true hc0
    have d2:decide (x.case<(p.cs.length:Int))=true:=decide_eq_true hc1
    have d4:wrap64 (p.rounds+1)=p.rounds+1:=by unfold wrap64;omega
    have d3:((x.vs.length:Int)==p.rounds+1)=true:=by rw[beq_iff_eq,hvl,←hfK];simp
    have HHL:=Lib.hid hln
    have HVL:=Lib.hid hvl
    obtain ⟨_,_,hee,ad2,_⟩:=i4.out.form
    cases hee
    obtain ⟨i0,hi,_,hz1,_⟩:=info_parts info_ints
    have HQ2:=Lib.hid (idx_one Tryz.underlying66 hi hz1 ad2)
    clear hx i1 i2 i3 hvl hln HVW HVA hc0 hc1 hi hz1 ad2
    go_upto_region 8 with fail
    obtain ⟨wA,hwA⟩:∃wA,wA=wr.alloc (.cells #[.int .i64 x.case,.slice a1 x.word.length c1,.slice a3 x.vs.length c3] 68):=⟨_,rfl⟩
    obtain ⟨BX,hBX⟩:∃BX,BX=wr.heap.size:=⟨_,rfl⟩
    rw[←hwA]at RX R5 R1 exA i4
    rw[←hBX]at RX
    rw[←hwA,←hBX]
    clear hwA hBX z0 z1 z2 bk q1
    have x0:=RX.cell (j:=0) rfl
    have x2:=RX.cell (j:=2) rfl
    have lX:=RX.lt
    have c3:=R1.cell (j:=3) rfl
    have c6:=R1.cell (j:=6) rfl
    have lR1:=R1.lt
    have HXA:=Lib.hid exA
    have HRA:=Lib.hid R1
    have HR5A:=Lib.hid R5
    clear exA hb RX R1 R5
    go_wp2
    clear x0 x2 lX c3 c6 lR1 d1 d2 d3 d4
    go_loopw [7,11,62] (fun ok _ i wi=>∃j:Nat,j≤x.vs.length∧i=.int .i64 j∧ok=.bool true∧Below wA.heap.size wA wi) (fun _ _ i _=>x.vs.length - (intOf i).toNat)
    case atStart=>exact ⟨0,Nat.zero_le _,rfl,rfl,Below.refl _ wA⟩
    case round=>
      obtain ⟨j,hj,rfl,rfl,hb⟩:=hrel
      by_cases hjl:j<x.vs.length
      case neg=>
        obtain rfl:j=x.vs.length:=by omega
        have hbb:=ext_trans HXA.out hb
        clear hb
        go_wp2
        go_roundw
        case rel=>exact ⟨k+1,by omega,by go_num,rfl,hbb⟩
        case measure=>simp[intOf];omega
      have q2:=HQ2.out j hjl
      obtain ⟨u,cu,iu⟩:=i4.out.at (.refl _ _) hjl
      obtain ⟨fa,fc,rfl,_⟩:=iu.form
      have cu':=cell_ext cu hb
      have bu:=World.block_lt_of_cell? _ _ cu'
      have iuw:=Lib.hid (iu.ext hb)
      have hvb:x.vs.length≤7:=by have:=HVL.out;omega
      have hlj:=HHL.out j (by have:=HVL.out;omega)
      have R1:=HRA.out.ext hb
      have c5:=(HR5A.out.ext hb).cell (j:=8) rfl
      have l5:=(HR5A.out.ext hb).lt
      have c0:=R1.cell (j:=0) rfl
      have lR1:=R1.lt
      have KC:=Lib.hid (containsNo_quiet (g:=55) (cp:=.pointer (some ⟨B5,0,none⟩)) iuw.out (fun _ _=>rfl) fun W hW t ht=>by
        obtain ⟨z,hz,hz1⟩:=HVB.out t (by omega) j (by have:=HVL.out;omega)
        rw[hz]
        exact outside_quiet (cell_ext c5 hW.ext) hz1)
      have KC:=Lib.hid (KC.out.mono fun _ _ h=>h.take)
      obtain ⟨l,hl⟩:∃l,l=nthL x.vs j:=⟨_,rfl⟩
      rw[←hl]at cu' hlj KC
      have d5:((l.length:Int)==p.n)=true:=by rw[beq_iff_eq,hlj];exact hfN
      have hb':=Lib.hid hb
      clear iu cu hl hlj iuw R1 hb
      go_wp2_with fail
      refine KC.out.mono ?_
      rintro _ w8 ⟨_,rfl,hq8,rfl⟩
      have hbb:=ext_trans hb'.out hq8.ext
      clear KC hq8 cu' bu c5 l5 c0 lR1 d5 q2 hb'
      go_wp2
      go_roundw
      case rel=>exact ⟨j+1,hjl,by go_num,rfl,hbb⟩
      case measure=>simp[intOf];omega
end Go.Proofs.YtcopehiceihdaaaGreat
