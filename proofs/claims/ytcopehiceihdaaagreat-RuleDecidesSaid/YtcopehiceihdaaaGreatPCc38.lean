/- Part of the proof that the laws of chapter 45 answer true for every input. -/
import Derived.Test.YtcopehiceihdaaaGreatPCc37
set_option linter.unusedSimpArgs false
set_option linter.unnecessarySimpa false
set_option linter.unusedVariables false
set_option maxRecDepth 100000
set_option maxHeartbeats 40000000
namespace Go.Proofs.YtcopehiceihdaaaGreat
open Go.RowKit Go.Shelf
attribute [local go_sem ↓] Go.wp_at_zero Go.wp_at_succ
attribute [local go_sem] Oper.semAt_some
theorem owns_from {B base:Nat} {W W':World} {row:Option Nat} {e:TypeId} {v:Value} {n:Nat} {xs:List Value} (h:W.ownsRow base e 1 v n xs) (hg:W.grownBy W' row) (hr:∀r,row=some r→B≤r∧∃o:Obj,W.heap[r]? =some o∧o.isCells=false):W'.ownsRow base e 1 v n xs:=by
  refine owns_agree (S:=fun b=>row≠some b) h (.of_grown hg fun b hb=>hb) (fun k hk e=>?_)
  obtain ⟨_,o,h1,h2⟩:=hr k e
  rcases h.2 with ⟨rfl,_⟩ | ⟨g,cap,cur,rfl,_,hc,_⟩
  · cases hk
  · cases hk
    rw[hc]at h1
    cases h1
    cases h2
theorem TimV.ext {w w':World} {S S2:Nat→Prop} {xa:Option Addr} {xc:Nat} {xs:List ExecD} {e N K:Nat} {a2:Option Addr} {c2:Nat} {ch:List Int} (h:TimV w S S2 xa xc xs e N K a2 c2 ch) (hw:Below w.heap.size w w'):TimV w' S S2 xa xc xs e N K a2 c2 ch:=
  ⟨h.ex.ext hw,h.lt,h.len,h.rows,h.vw,h.rule.ext hw,h.N5,h.K6⟩
theorem timesM_calls (w:World) (s:SysF) (e:Int) (ca sa ta xa a2:Option Addr) (cc sc tc xc c2 m:Nat):Calls Tryz.prog 51 #[.agg #[.int .i64 s.p.n,.int .i64 s.p.ins,.int .i64 s.p.outs,.slice ca s.p.cs.length cc,.int .i64 s.p.an,.slice sa s.p.st.length sc,.int .i64 s.p.rounds,.int .i64 s.tn,.slice ta s.tab.length tc,.slice xa s.ex.length xc],.agg #[.slice a2 m c2],.int .i64 e] w fun q w'=>q=.returned (.func (.func 94) #[] #[.pointer (some ⟨w.heap.size,0,none⟩),.pointer (some ⟨w.heap.size+2,0,none⟩),.pointer (some ⟨w.heap.size+1,0,none⟩)])∧w'=((w.alloc (.cells #[.int .i64 s.p.n,.int .i64 s.p.ins,.int .i64 s.p.outs,.slice ca s.p.cs.length cc,.int .i64 s.p.an,.slice sa s.p.st.length sc,.int .i64 s.p.rounds,.int .i64 s.tn,.slice ta s.tab.length tc,.slice xa s.ex.length xc] 35)).alloc (.cells #[.slice a2 m c2] 38)).alloc (.cells #[.int .i64 e] 3):=by
  go_enter Tryz.func51,Tryz.ntmps51
  go_wp2
  go_ret
  exact ⟨rfl,rfl⟩
theorem SysV.tim {S S2:Nat→Prop} {w:World} {s:SysF} {e:Nat} {ch:List Int} {ca sa ta xa a2:Option Addr} {cc sc tc xc c2:Nat} (hg:GoodS s s.N s.K) (hx:Sl kExec S w (.slice xa s.ex.length xc) s.ex) (h2:Ints S2 w (.slice a2 ch.length c2) ch) (hcl:ch.length=s.tab.length) (he:e<s.ex.length):
    TimV w (fun b=>S b∧b<w.heap.size) (fun b=>S2 b∧b<w.heap.size) xa xc s.ex e s.N s.K a2 c2 ch:=by
  obtain ⟨c,hX⟩:=hg.ex e he
  exact ⟨hx.block,he,hX.len,hX.rows,fun k hk q hq=>by obtain ⟨z,h1,h2,_⟩:=hg.view he hk hq;exact ⟨z,by omega,h2⟩,h2.block 0,by have:=hg.pok.n1.2;omega,hg.K6⟩
theorem pTim_calls {S S2:Nat→Prop} {w:World} {v vch:Value} {s:SysF} {ch:List Int} (e:Int) (h:SysV S w v s) (hf:PFew s.p) (h2:Ints S2 w vch ch):
    Calls Tryz.prog 30 #[v,.agg #[vch],.int .i64 e] w (Post w (TimR w.heap.size s ch e)):=by
  have KV:Hid (∀W,Below w.heap.size w W→Calls Tryz.prog 65 #[v,.agg #[vch],.int .i64 e] W (Post W fun _ r=>r=.int .i64 (sceneE s ch e))):=Lib.hid fun W hW=>pscene_calls e (h.ext hW) hf (h2.ext hW)
  have h8:=h.moves8
  obtain ⟨vc,vs,vt,vx,rfl,hc,hs,ht,hx⟩:=h
  obtain ⟨ca,cc,rfl,_⟩:=hc.form
  obtain ⟨sa,sc,rfl,_⟩:=hs.form
  obtain ⟨ta,tc,rfl,_⟩:=ht.form
  obtain ⟨xa,xc,rfl,xad,_⟩:=hx.form2
  obtain ⟨a2,c2,rfl,_⟩:=h2.form
  have KT:Hid (sceneE s ch e=0→∃m:Nat,e=m∧s.p.n=(s.N:Int)∧s.K≤6∧TimV w (fun b=>S b∧b<w.heap.size) (fun b=>S2 b∧b<w.heap.size) xa xc s.ex m s.N s.K a2 c2 ch):=Lib.hid fun h0=>by
    obtain ⟨j1,j2,j3,j4⟩:=sceneE_ok h0
    obtain ⟨m,rfl⟩:=Int.eq_ofNat_of_zero_le j3
    have hg:=good_sys j1 h8
    exact ⟨m,rfl,by have:=hg.pok.n;exact this,hg.K6,SysV.tim (ca:=ca) (sa:=sa) (ta:=ta) (cc:=cc) (sc:=sc) (tc:=tc) hg hx h2 j2 (by omega)⟩
  have ex:=ext_alloc' (ext_alloc w (.cells #[.int .i64 s.p.n,.int .i64 s.p.ins,.int .i64 s.p.outs,.slice ca s.p.cs.length cc,.int .i64 s.p.an,.slice sa s.p.st.length sc,.int .i64 s.p.rounds,.int .i64 s.tn,.slice ta s.tab.length tc,.slice xa s.ex.length xc] 35)) (.cells #[.slice a2 ch.length c2] 38)
  have R0:=(row_new w [.int .i64 s.p.n,.int .i64 s.p.ins,.int .i64 s.p.outs,.slice ca s.p.cs.length cc,.int .i64 s.p.an,.slice sa s.p.st.length sc,.int .i64 s.p.rounds,.int .i64 s.tn,.slice ta s.tab.length tc,.slice xa s.ex.length xc] 35).alloc (.cells #[.slice a2 ch.length c2] 38)
  have R1:=row_new (w.alloc (.cells #[.int .i64 s.p.n,.int .i64 s.p.ins,.int .i64 s.p.outs,.slice ca s.p.cs.length cc,.int .i64 s.p.an,.slice sa s.p.st.length sc,.int .i64 s.p.rounds,.int .i64 s.tn,.slice ta s.tab.length tc,.slice xa s.ex.length xc] 35)) [.slice a2 ch.length c2] 38
  rw[World.size_alloc]at R1
  have t0:=R0.cell (j:=0) rfl
  have t1:=R0.cell (j:=1) rfl
  have t2:=R0.cell (j:=2) rfl
  have t3:=R0.cell (j:=3) rfl
  have t4:=R0.cell (j:=4) rfl
  have t5:=R0.cell (j:=5) rfl
  have t6:=R0.cell (j:=6) rfl
  have t7:=R0.cell (j:=7) rfl
  have t8:=R0.cell (j:=8) rfl
  have t9:=R0.cell (j:=9) rfl
  have r1:=R1.cell (j:=0) rfl
  have l1:=R1.lt
  have l0:=R0.lt
  have HD:Hid (∀w' r,(sceneE s ch e=0∧(∃u,r=.tuple #[u,.int .i64 0]∧Ints (fun b=>w.heap.size≤b) w' u (rndL s ch e.toNat)))∨(sceneE s ch e≠0∧r=.tuple #[.slice none 0 0,.int .i64 (sceneE s ch e)])→TimR w.heap.size s ch e w' r):=Lib.hid fun w' r h=>h
  obtain ⟨ve,hve⟩:∃x,x=sceneE s ch e:=⟨_,rfl⟩
  rw[←hve]at KV KT HD
  clear hc hs ht hx h2 hf hve xad h8
  refine (callsIn_wide (n:=6)).1 ?_
  refine callsIn_of_wp_marks Tryz.func30 rfl trivial ?_ rfl
  simp only[Tryz.ntmps30,List.size_toArray,List.length_cons,List.length_nil,Nat.reduceAdd,Nat.reduceSub,Array.replicate_succ,Array.replicate_zero,List.push_toArray,List.append_toArray,List.nil_append,List.cons_append]
  refine wpIn_wide.2 ?_
  go_wp2_with fail
  refine (KV.out _ ex).mono ?_
  rintro _ w1 ⟨_,rfl,hb1,rfl⟩
  replace R0:=R0.ext hb1
  replace R1:=R1.ext hb1
  replace ex:=ext_trans ex hb1
  clear t0 t1 t2 t3 t4 t5 t6 t7 t8 t9 l0 r1 l1 hb1 KV
  by_cases hv0:ve=0
  case neg=>
    have d0:(ve !=0)=true:=by simp[hv0]
    have RE:=Lib.hid (HD.out w1 _ (.inr ⟨hv0,rfl⟩))
    clear hv0
    go_wp2
    refine bodyM_ret ?_
    exact ⟨.tuple #[.slice none 0 0,.int .i64 ve],by simp[results,Tryz.results30,go_sem],.mk ex RE.out⟩
  have hs1:=ex.size
  subst hv0
  obtain ⟨m,rfl,hpn,hK6,V⟩:=KT.out rfl
  have HPN:=Lib.hid hpn
  clear hpn
  have d0:((0:Int) !=0)=false:=rfl
  have RO:=row_new w1 [.slice none 0 0] 36
  replace R0:=R0.alloc (.cells #[.slice none 0 0] 36)
  replace R1:=R1.alloc (.cells #[.slice none 0 0] 36)
  replace ex:=ext_alloc' ex (.cells #[.slice none 0 0] 36)
  have t0:=R0.cell (j:=0) rfl
  have t1:=R0.cell (j:=1) rfl
  have t2:=R0.cell (j:=2) rfl
  have t3:=R0.cell (j:=3) rfl
  have t4:=R0.cell (j:=4) rfl
  have t5:=R0.cell (j:=5) rfl
  have t6:=R0.cell (j:=6) rfl
  have t7:=R0.cell (j:=7) rfl
  have t8:=R0.cell (j:=8) rfl
  have t9:=R0.cell (j:=9) rfl
  have r1:=R1.cell (j:=0) rfl
  have l1:=R1.lt
  have l0:=R0.lt
  have KM:=Lib.hid (timesM_calls (w1.alloc (.cells #[.slice none 0 0] 36)) s m ca sa ta xa a2 cc sc tc xc c2 ch.length)
  go_wp2_with fail
  refine KM.out.mono ?_
  rintro _ _ ⟨rfl,rfl⟩
  clear t0 t1 t2 t3 t4 t5 t6 t7 t8 t9 l0 r1 l1 KM R0 R1
  have RS:=((row_new (w1.alloc (.cells #[.slice none 0 0] 36)) [.int .i64 s.p.n,.int .i64 s.p.ins,.int .i64 s.p.outs,.slice ca s.p.cs.length cc,.int .i64 s.p.an,.slice sa s.p.st.length sc,.int .i64 s.p.rounds,.int .i64 s.tn,.slice ta s.tab.length tc,.slice xa s.ex.length xc] 35).alloc (.cells #[.slice a2 ch.length c2] 38)).alloc (.cells #[.int .i64 m] 3)
  have RR:=(row_new ((w1.alloc (.cells #[.slice none 0 0] 36)).alloc (.cells #[.int .i64 s.p.n,.int .i64 s.p.ins,.int .i64 s.p.outs,.slice ca s.p.cs.length cc,.int .i64 s.p.an,.slice sa s.p.st.length sc,.int .i64 s.p.rounds,.int .i64 s.tn,.slice ta s.tab.length tc,.slice xa s.ex.length xc] 35)) [.slice a2 ch.length c2] 38).alloc (.cells #[.int .i64 m] 3)
  have REE:=row_new (((w1.alloc (.cells #[.slice none 0 0] 36)).alloc (.cells #[.int .i64 s.p.n,.int .i64 s.p.ins,.int .i64 s.p.outs,.slice ca s.p.cs.length cc,.int .i64 s.p.an,.slice sa s.p.st.length sc,.int .i64 s.p.rounds,.int .i64 s.tn,.slice ta s.tab.length tc,.slice xa s.ex.length xc] 35)).alloc (.cells #[.slice a2 ch.length c2] 38)) [.int .i64 m] 3
  replace RO:=((RO.alloc (.cells #[.int .i64 s.p.n,.int .i64 s.p.ins,.int .i64 s.p.outs,.slice ca s.p.cs.length cc,.int .i64 s.p.an,.slice sa s.p.st.length sc,.int .i64 s.p.rounds,.int .i64 s.tn,.slice ta s.tab.length tc,.slice xa s.ex.length xc] 35)).alloc (.cells #[.slice a2 ch.length c2] 38)).alloc (.cells #[.int .i64 m] 3)
  replace ex:=ext_alloc' (ext_alloc' (ext_alloc' ex (.cells #[.int .i64 s.p.n,.int .i64 s.p.ins,.int .i64 s.p.outs,.slice ca s.p.cs.length cc,.int .i64 s.p.an,.slice sa s.p.st.length sc,.int .i64 s.p.rounds,.int .i64 s.tn,.slice ta s.tab.length tc,.slice xa s.ex.length xc] 35)) (.cells #[.slice a2 ch.length c2] 38)) (.cells #[.int .i64 m] 3)
  have hz0:((((w1.alloc (.cells #[.slice none 0 0] 36)).alloc (.cells #[.int .i64 s.p.n,.int .i64 s.p.ins,.int .i64 s.p.outs,.slice ca s.p.cs.length cc,.int .i64 s.p.an,.slice sa s.p.st.length sc,.int .i64 s.p.rounds,.int .i64 s.tn,.slice ta s.tab.length tc,.slice xa s.ex.length xc] 35)).alloc (.cells #[.slice a2 ch.length c2] 38)).alloc (.cells #[.int .i64 m] 3)).heap.size=w1.heap.size+4:=by simp
  simp only[World.size_alloc]at RS RR REE
  obtain ⟨B,hB⟩:∃B,B=w1.heap.size:=⟨_,rfl⟩
  obtain ⟨w0,hw0⟩:∃w0,w0=(((w1.alloc (.cells #[.slice none 0 0] 36)).alloc (.cells #[.int .i64 s.p.n,.int .i64 s.p.ins,.int .i64 s.p.outs,.slice ca s.p.cs.length cc,.int .i64 s.p.an,.slice sa s.p.st.length sc,.int .i64 s.p.rounds,.int .i64 s.tn,.slice ta s.tab.length tc,.slice xa s.ex.length xc] 35)).alloc (.cells #[.slice a2 ch.length c2] 38)).alloc (.cells #[.int .i64 m] 3):=⟨_,rfl⟩
  have hBw:w.heap.size≤B:=by rw[hB];exact hs1
  rw[←hw0]at RS RR REE RO ex hz0 ⊢
  simp only[←hB,World.size_alloc,Nat.add_assoc,Nat.reduceAdd]at RS RR REE RO hz0 ⊢
  rw[HPN.out]at RS
  clear hw0 hB hs1 HPN
  have hTw:∀b,(b<B+4∧b≠B)→b<w0.heap.size:=fun b hb=>by omega
  have HST:=times_stops (T:=fun b=>b<B+4∧b≠B) (n:=5) (by decide) RS REE RR (V.ext ex) ⟨by omega,by omega⟩ ⟨by omega,by omega⟩ ⟨by omega,by omega⟩ (fun b hb=>⟨by have:=hb.2;omega,by have:=hb.2;omega⟩) (fun b hb=>⟨by have:=hb.2;omega,by have:=hb.2;omega⟩) hTw
  have HF:Hid (∀W' rv,Ints (fun b=>w.heap.size≤b) W' rv (rndsTo ch (nthX s.ex m).vs s.K s.N)→TimR w.heap.size s ch m W' (.tuple #[rv,.int .i64 0])):=Lib.hid fun W' rv h=>HD.out _ _ (.inl ⟨(by first | exact trivial | rfl),_,rfl,by rw[Int.toNat_natCast];exact h⟩)
  have HWF:=Lib.hid (rndsTo_wf ch (nthX s.ex m).vs hK6 s.N)
  have hN5:=V.N5
  clear RS RR REE V HD KT
  obtain ⟨f,hf⟩:∃f,f=fun q:Nat=>rndQ ch (nthX s.ex m).vs s.K q:=⟨_,rfl⟩
  have HFL:Hid (rndsTo ch (nthX s.ex m).vs s.K s.N=(List.range s.N).map f):=Lib.hid (by rw[hf];rfl)
  have hfx:∀x,rndQ ch (nthX s.ex m).vs s.K x=f x:=fun x=>by rw[hf]
  simp only[hfx]at HST
  clear hf hfx
  go_wp2
  refine wpIn_wide (n:=6).1 ?_
  apply wpIn_rangeFunc_ownF (n:=6) rfl (by decide) (gf:=94) (lb:=#[.pointer (some ⟨B+1,0,none⟩),.pointer (some ⟨B+3,0,none⟩),.pointer (some ⟨B+2,0,none⟩)]) rfl trivial (enters_of Tryz.func94 (by kernel_rfl) rfl)
    HST agreeK_t (agreeK_b hTw) (Below.refl _ _) (fun _=>rfl)
    (fun (pre:List {x:Nat // x<s.N}) W=>∃rv,Row W B 36 [rv]∧W.ownsRow (B+4) 3 1 rv pre.length ((pre.map fun x=>f x.1).map (Value.int .i64))∧Below w.heap.size w W∧B+4≤W.heap.size)
    (fun c (pre:List {x:Nat // x<s.N}) W=>False)
    (fun pre A C row h hg hr=>by
      obtain ⟨rv,h1,h2,h3,h4⟩:=h
      exact ⟨rv,h1.grown hg (fun e=>by have:=(hr _ e).1;omega),owns_from h2 hg hr,h3.grown hg h3.size (fun k hk=>by have:=(hr k hk).1;omega),by have:=hg.size;omega⟩)
    (fun c=>ownFrom_false _) ⟨_,RO,World.ownsRow_nil _ _ _ _,ex,by omega⟩
  case hassign=>
    intro l x W Kq hK
    have hK:=Lib.hid hK
    gi_wp2
    exact hK.out
  case hbody=>
    rintro l pre x W ⟨rv,P2,hO,hBW,hsz⟩ hlen
    have hl1:∀y,(pre++[x]).map (fun x:{x:Nat // x<s.N}=>f x.1)=pre.map (fun x:{x:Nat // x<s.N}=>f x.1)++[y]↔f x.1=y:=fun y=>by simp
    have c2:=P2.cell (j:=0) rfl
    have ORW:=Lib.hid hO
    have HNE:Hid (∀k,rv.ownBlock=some k→B+4≤k∧k<W.heap.size):=Lib.hid (fun k hk=>hO.lt k hk)
    have zP2:=P2.lt
    obtain ⟨pl,hpl⟩:∃pl,pl=pre.length:=⟨_,rfl⟩
    rw[←hpl]at hlen ORW
    have HPL:=Lib.hid hpl
    obtain ⟨y,hy⟩:∃y,y=f x.1:=⟨_,rfl⟩
    have HX:=Lib.hid ((hl1 y).2 hy.symm)
    rw[←hy]
    clear hO hpl hl1 hy
    gi_wp2_with (gi_at_builtin;refine wpListIn_push rfl _ _ 36 rfl 3 _ 8 Tryz.underlying36 info_int rfl (B+4) _ _ _ rfl ORW.out (.int .i64 y) rfl rfl (by omega) (by omega) (by omega) ?_;intro g6 cp6 w6 hown6 hgr6 hat6;have R6:=(P2.alloc (.cells #[.int .i64 y] 3)).grown hgr6 (fun e=>by have:=(HNE.out _ e).1;omega);have f6:=R6.free 0;have c6:=R6.cell (j:=0) rfl)
    have hset:=grownBy_setCell w6 B 0 (.slice (some ⟨g6,0,none⟩) (pl+1) cp6)
    have P6:=R6.set 0 (.slice (some ⟨g6,0,none⟩) (pl+1) cp6)
    have hlt6:=(hown6.lt g6 rfl).1
    have hs6:=hBW.size
    have hg6:=hgr6.size
    have ha6:(W.alloc (.cells #[.int .i64 y] 3)).heap.size=W.heap.size+1:=by simp
    refine ⟨((KeepsOthers.alloc W _).trans (.of_grownBy hgr6 fun j o hj ho=>?_)).trans (.setCell _ _ _),((Agree.of_grown (World.grownBy_alloc W (.cells #[.int .i64 y] 3) none) (by simp)).trans (.of_grown hgr6 fun k hk e=>?_)).trans (.of_grown hset fun k hk e=>?_),_,P6,?_,((hBW.alloc hBW.size _).grown hgr6 (by rw[ha6];omega) fun k hk=>?_).setCell (by simp;omega) _,by have:=hset.size;omega⟩
    · rcases ORW.out.2 with ⟨rfl,_⟩ | ⟨g,cap,cur,rfl,_,hc,_⟩
      · cases hj
      · cases hj
        rw[(Below.heap_alloc W _ _ (Array.getElem?_eq_some_iff.1 hc).1).trans hc]at ho
        cases ho
        rfl
    · have:=(HNE.out k e).1;omega
    · cases e;omega
    · rw[HX.out,List.map_append,List.length_append,←HPL.out]
      exact owns_agree (S:=fun b=>b≠B) hown6 (.of_grown hset fun k hk e=>by cases e;exact hk rfl) (fun k hk=>by have:=(hown6.lt k hk).1;show k≠_;omega)
    · have:=(HNE.out k hk).1;omega
  case hstop=>
    rintro D c pre W hD hSp h hK
    exact h.elim
  case hdone=>
    rintro D xs W hD hS ⟨rv,P2,hO,hBW,hsz⟩ hK
    have c2:=P2.cell (j:=0) rfl
    have hl2:xs.map (fun x:{x:Nat // x<s.N}=>f x.1)=rndsTo ch (nthX s.ex m).vs s.K s.N:=by rw[HFL.out,←hS,List.map_map];rfl
    rw[hl2]at hO
    have hB9:=hBW.grown (grownBy_putObj' W D (.deferred none)) hBW.size (fun k hk=>by cases hk;omega)
    have hO9:=ownsRow_putObj hO (.deferred none) hK rfl
    have hI:=(Ints.of_own hO9 HWF.out).mono (S':=fun b=>w.heap.size≤b) fun b hb=>by omega
    have HKD:=Lib.hid hK
    have RE:=Lib.hid (HF.out _ _ hI)
    have HB9:=Lib.hid hB9
    clear hO hS hl2 hO9 hI hB9 hK
    go_wp2
    refine bodyM_ret (leaves_one HKD.out ?_)
    exact ⟨.tuple #[rv,.int .i64 0],by simp[results,Tryz.results30,go_sem],.mk HB9.out RE.out⟩
end Go.Proofs.YtcopehiceihdaaaGreat
