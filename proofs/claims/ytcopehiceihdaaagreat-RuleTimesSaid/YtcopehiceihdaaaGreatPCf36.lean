/- Part of the proof that the laws of chapter 45 answer true for every input. -/
import Derived.Test.YtcopehiceihdaaaGreatPCf35
import Derived.Test.YtcopehiceihdaaaGreatPCf23
import Derived.Test.YtcopehiceihdaaaGreatPCf10
set_option linter.unusedSimpArgs false
set_option linter.unnecessarySimpa false
set_option linter.unusedVariables false
set_option maxRecDepth 100000
set_option maxHeartbeats 40000000
namespace Go.Proofs.YtcopehiceihdaaaGreat
open Go.RowKit Go.Shelf
attribute [local go_sem ↓] Go.wp_at_zero Go.wp_at_succ
theorem minT_up {f:Nat→Bool} {K m:Nat} (hm:m≤K):minT f m (K+1 - m)=if f m then (m:Int) else minT f (m+1) (K+1 - (m+1)):=minT_down hm
theorem range_prefix {k N:Nat} (h:k≤N):List.range k<+:List.range N:=by
  obtain ⟨d,rfl⟩:∃d,N=k+d:=⟨N - k,by omega⟩
  rw[List.range_add]
  exact List.prefix_append _ _
theorem grownBy_drewN (w:World) (n:Nat):w.grownBy (w.drewN n) none:=⟨rfl,rfl,rfl,Nat.le_refl _,fun _ _ _=>rfl⟩
theorem QW.grown {w w':World} (h:QW w w'):w.grownBy w' none:=by obtain ⟨n,rfl⟩:=h;exact grownBy_drewN w n
theorem abides_q {β:Type} {B:Nat} {J:β→World→Prop} (hJ:AbidesFrom B J) {s:β} {W W':World} (h:J s W) (hq:QW W W'):J s W':=hJ s W W' none h hq.grown (fun r e=>by cases e)
structure TimV (w:World) (S S2:Nat→Prop) (xa:Option Addr) (xc:Nat) (xs:List ExecD) (e N K:Nat) (a2:Option Addr) (c2:Nat) (ch:List Int):Prop where
  ex:Sl kExec S w (.slice xa xs.length xc) xs
  lt:e<xs.length
  len:(nthX xs e).vs.length=K+1
  rows:∀k,k≤K→(nthL (nthX xs e).vs k).length=N
  vw:∀k,k≤K→∀q,q<N→∃z:Nat,z<ch.length∧nth (nthL (nthX xs e).vs k) q=z
  rule:Ints S2 w (.slice a2 ch.length c2) ch
  N5:N≤5
  K6:K≤6
theorem times_stops {S S2 T:Nat→Prop} {w:World} {n B1 B2 B3 N K e:Nat} (hn:1≤n) {p1 p2 p3 p4 p5 p6 p7 p8:Value} {xa a2:Option Addr} {xc c2:Nat} {xs:List ExecD} {ch:List Int}
    (R1:Row w B1 35 [.int .i64 N,p1,p2,p3,p4,p5,p6,p7,p8,.slice xa xs.length xc]) (R2:Row w B2 3 [.int .i64 e]) (R3:Row w B3 38 [.slice a2 ch.length c2]) (V:TimV w S S2 xa xc xs e N K a2 c2 ch)
    (hT1:T B1) (hT2:T B2) (hT3:T B3) (hTS:∀b,S b→T b) (hTS2:∀b,S2 b→T b) (hTw:∀b,T b→b<w.heap.size):
    SeqStopsK Fence.wide n Tryz.prog 94 #[.pointer (some ⟨B1,0,none⟩),.pointer (some ⟨B2,0,none⟩),.pointer (some ⟨B3,0,none⟩)] (fun x:{x:Nat // x<N}=>#[.int .i64 x.1,.int .i64 (rndQ ch (nthX xs e).vs K x.1)]) (Agree T) (fun l=>l.map (·.1)=List.range N) (fun pre=>pre.map (·.1)<+:List.range N) N w:=by
  intro l J Jx W hW hJ hJx hY h0
  have he:=V.lt
  have hN5:=V.N5
  have hK6:=V.K6
  have hLE:=V.len
  obtain ⟨_,_,hee0,xad,_⟩:=V.ex.form2
  cases hee0
  have q1:=idx_exec xad e he
  obtain ⟨a1,c1,a3,c3,z0,z1,z2,i1,i2⟩:=V.ex.exec he
  have HR:=V.rule
  have HLN0:=V.rows
  have HVW0:=V.vw
  obtain ⟨vs,hvs⟩:∃vs,vs=(nthX xs e).vs:=⟨_,rfl⟩
  rw[←hvs]at z2 i2 hLE HLN0 HVW0
  simp only[←hvs]at hY
  have HLN:=Lib.hid HLN0
  have HVW:=Lib.hid HVW0
  have HY:=Lib.hid hY
  have H0:=Lib.hid h0
  have HJ:=Lib.hid hJ
  have R1:=R1.ext hW
  have R2:=R2.ext hW
  have R3:=R3.ext hW
  have HR3:Hid (∀W',Agree T W W'→Row W' B3 38 [.slice a2 ch.length c2]):=Lib.hid fun W' h=>R3.agree h hT3
  have HVS:Hid (∀W',Agree T W W'→Lists S W' (.slice a3 vs.length c3) vs):=Lib.hid fun W' h=>Lists.agree i2 ((Agree.of_ext hW).trans (h.mono hTS))
  have HRU:Hid (∀W',Agree T W W'→Ints S2 W' (.slice a2 ch.length c2) ch):=Lib.hid fun W' h=>HR.agree ((Agree.of_ext hW).trans (h.mono hTS2))
  obtain ⟨_,_,hee,ad2,_⟩:=Lists.form i2
  cases hee
  obtain ⟨i0,hi,_,hz1,_⟩:=info_parts info_ints
  have Q2:=Lib.hid (idx_one Tryz.underlying66 hi hz1 ad2)
  obtain ⟨L,hL⟩:∃L,L=vs.length:=⟨_,rfl⟩
  rw[←hL]at z2 hLE HVS Q2
  have HL:=Lib.hid hLE
  have HLV:=Lib.hid hL.symm
  have z2':=cell_ext z2 hW
  have bk:=World.block_lt_of_cell? _ _ z2'
  have t0:=R1.cell (j:=0) rfl
  have t9:=R1.cell (j:=9) rfl
  have te:=R2.cell (j:=0) rfl
  have l1:=R1.lt
  have l2:=R2.lt
  have hag:Agree T W W:=.refl _ _
  have hLm:L≤7:=by omega
  clear hJ hJx hY h0 hTS hTS2 hTw R1 R2 R3 V z0 z1 z2 i1 i2 hvs HLN0 HVW0 HR ad2 hi hz1 hL hLE xad hT1 hT2 hT3
  refine callsIn_of_wp Tryz.func94 rfl trivial ?_ rfl
  simp only[Tryz.ntmps94,List.size_toArray,List.length_cons,List.length_nil,Nat.reduceAdd,Nat.reduceSub,Array.replicate_succ,Array.replicate_zero,List.push_toArray,List.append_toArray,List.nil_append,List.cons_append]
  gi_wp2
  clear t0 t9 te l1 l2 z2' bk q1
  gi_loopw [6,7,8,19] (fun _ _ _ i wr=>∃(k:Nat) (pre:List {x:Nat // x<N}),k≤N∧i=.int .i64 k∧Hid (J pre wr)∧Hid (pre.map (·.1)=List.range k)∧Agree T W wr) (fun _ _ _ i _=>N - (intOf i).toNat)
  case atStart=>exact ⟨0,[],Nat.zero_le _,rfl,H0,Lib.hid rfl,hag⟩
  case round=>
    obtain ⟨k,pre,hk,rfl,HJs,HP,hA⟩:=hrel
    obtain ⟨wo,hwo⟩:∃wo:World,wo=wr:=⟨_,rfl⟩
    rw[←hwo]at HJs hA ⊢
    clear hwo
    by_cases hlt:k<N
    case neg=>
      obtain rfl:k=N:=by omega
      gi_wp2
      go_end0
      exact ⟨⟨_,rfl⟩,.inl ⟨pre,HP.out,HJs.out⟩⟩
    have HPN:Hid ((pre++[(⟨k,hlt⟩:{x:Nat // x<N})]).map (·.1)=List.range (k+1)):=Lib.hid (by rw[List.range_succ,List.map_append,HP.out];rfl)
    have HPX:Hid ((pre++[(⟨k,hlt⟩:{x:Nat // x<N})]).map (·.1)<+:List.range N):=Lib.hid (by rw[HPN.out];exact range_prefix hlt)
    have hpl:pre.length<N:=by
      have h2:=congrArg List.length HP.out
      rw[List.length_map,List.length_range]at h2
      omega
    gi_wp2
    gi_loopw [7,8,24] (fun at' _ i wi=>∃m:Nat,m≤L∧i=.int .i64 m∧at'=.int .i64 (-1)∧Hid (J pre wi)∧Agree T W wi∧Hid (rndQ ch vs K k=minT (decAt ch vs k) m (K+1 - m))) (fun _ _ i _=>L - (intOf i).toNat)
    case atStart=>exact ⟨0,Nat.zero_le _,rfl,rfl,HJs,hA,Lib.hid rfl⟩
    case round=>
      clear HJs HP hA
      obtain ⟨m,hm,rfl,rfl,HJs,hA,HM⟩:=hrel
      by_cases hml:m<L
      case neg=>
        obtain rfl:m=L:=by omega
        have hx:(-1:Int)=rndQ ch vs K k:=by rw[HM.out,HL.out,Nat.sub_self];rfl
        clear HM hml
        obtain ⟨fn,tmps,assign,body,hyy,hRnd⟩:=HY.out pre ⟨k,hlt⟩ _ HJs.out hpl
        dsimp only at hyy
        rw[←hx]at hyy
        clear hx
        gi_wp2
        refine hRnd.mono ?_
        rintro e W3 (⟨rfl,hJ3,hk3⟩ | ⟨rfl,hJx3⟩)
        · have HJ3:=Lib.hid hJ3
          have hA3:=hA.trans hk3
          clear hJ3 hyy hRnd
          gi_wp2
          go_roundw
          case rel=>exact ⟨k+1,_,by omega,by go_num,HJ3,HPN,hA3⟩
          case measure=>simp[intOf];omega
        · have HJ3:=Lib.hid hJx3
          clear hJx3 hyy hRnd
          gi_wp2
          refine bodyPost_ret (results_none rfl _ _ _) rfl ?_
          exact ⟨⟨_,rfl⟩,.inr ⟨_,HPX.out,HJ3.out⟩⟩
      have hmK:m≤K:=by have:=HL.out;omega
      have MU:=Lib.hid (minT_up (f:=decAt ch vs k) hmK)
      obtain ⟨z,hzc,hz⟩:=HVW.out m hmK k hlt
      have hdd:decAt ch vs k m=decide (0≤nth ch z):=by unfold decAt;rw[hz];rfl
      rw[hdd]at MU
      have q2:=Q2.out m hml
      have hmv:m<vs.length:=by rw[HLV.out];exact hml
      have hvl:=HVS.out wr hA
      rw[←HLV.out]at hvl
      obtain ⟨u,cu,iu⟩:=hvl.at (.refl _ _) hmv
      clear hvl
      obtain ⟨fa,fc,rfl,_⟩:=iu.form
      have hjn:k<(nthL vs m).length:=by rw[HLN.out m hmK];exact hlt
      have q3:=iu.idx hjn
      have cl:=iu.cellN hjn
      rw[hz]at cl
      have bu:=World.block_lt_of_cell? _ _ cu
      have bl:=World.block_lt_of_cell? _ _ cl
      have q4:=(HRU.out wr hA).idx hzc
      have cc:=(HRU.out wr hA).cellN hzc
      have bc:=World.block_lt_of_cell? _ _ cc
      have r3:=(HR3.out wr hA).cell (j:=0) rfl
      have l3:=(HR3.out wr hA).lt
      obtain ⟨x,hx⟩:∃x,x=nth ch z:=⟨_,rfl⟩
      rw[←hx]at MU cc
      clear hdd hx hz hjn iu hmv
      by_cases hx0:0≤x
      · have d1:decide (0≤x)=true:=decide_eq_true hx0
        rw[d1,if_pos rfl]at MU
        clear hx0
        gi_wp2
        refine wpIn_wide.2 ?_
        go_quiet (fail)
        refine draw_then fun w4 hq4=>?_
        replace HJs:=Lib.hid (abides_q HJ.out HJs.out hq4)
        replace hA:=hA.trans (Agree.of_ext hq4.ext)
        have hx:(m:Int)=rndQ ch vs K k:=by rw[HM.out,MU.out]
        clear cu cl cc r3 l3 bu bl bc q2 q3 q4 hq4 MU HM d1
        obtain ⟨fn,tmps,assign,body,hyy,hRnd⟩:=HY.out pre ⟨k,hlt⟩ _ HJs.out hpl
        dsimp only at hyy
        rw[←hx]at hyy
        clear hx
        gi_wp2
        refine hRnd.mono ?_
        rintro e W3 (⟨rfl,hJ3,hk3⟩ | ⟨rfl,hJx3⟩)
        · have HJ3:=Lib.hid hJ3
          have hA3:=hA.trans hk3
          clear hJ3 hyy hRnd
          gi_wp2
          go_roundw
          case rel=>exact ⟨k+1,_,by omega,by go_num,HJ3,HPN,hA3⟩
          case measure=>simp[intOf];omega
        · have HJ3:=Lib.hid hJx3
          clear hJx3 hyy hRnd
          gi_wp2
          refine bodyPost_ret (results_none rfl _ _ _) rfl ?_
          exact ⟨⟨_,rfl⟩,.inr ⟨_,HPX.out,HJ3.out⟩⟩
      · have d1:decide (0≤x)=false:=decide_eq_false hx0
        rw[d1,if_neg (by simp)]at MU
        clear hx0
        gi_wp2
        refine wpIn_wide.2 ?_
        go_quiet (fail)
        refine draw_then fun w4 hq4=>?_
        replace HJs:=Lib.hid (abides_q HJ.out HJs.out hq4)
        replace hA:=hA.trans (Agree.of_ext hq4.ext)
        have HM2:Hid (rndQ ch vs K k=minT (decAt ch vs k) (m+1) (K+1 - (m+1))):=Lib.hid (by rw[HM.out,MU.out])
        clear cu cl cc r3 l3 bu bl bc q2 q3 q4 hq4 MU HM d1
        gi_wp2
        go_roundw
        case rel=>exact ⟨m+1,by omega,by go_num,rfl,HJs,hA,HM2⟩
        case measure=>simp[intOf];omega
end Go.Proofs.YtcopehiceihdaaaGreat
namespace Go.Proofs.YtcopehiceihdaaaGreat
open Go.RowKit Go.Shelf
attribute [local go_sem ↓] Go.wp_at_zero Go.wp_at_succ
attribute [local go_sem] Oper.semAt_some
theorem owns_from {B base:Nat} {W W':World} {row:Option Nat} {e:TypeId} {v:Value} {n:Nat} {xs:List Value} (h:W.ownsRow base e 1 v n xs) (hg:W.grownBy W' row) (hr:∀r,row=some r→B≤r∧∃o:Obj,W.heap[r]? =some o∧o.isCells=false):W'.ownsRow base e 1 v n xs:=by
  refine owns_agree (S:=fun b=>row≠some b) h (.of_grown hg fun b hb=>hb) (fun k hk e=>?_)
  obtain ⟨_,o,h1,h2⟩:=hr k e
  rcases h.2 with ⟨rfl,_⟩ | ⟨g,cap,cur,rfl,_,hc,_⟩
  · cases hk
  · cases hk
    rw[hc]at h1
    cases h1
    cases h2
theorem TimV.ext {w w':World} {S S2:Nat→Prop} {xa:Option Addr} {xc:Nat} {xs:List ExecD} {e N K:Nat} {a2:Option Addr} {c2:Nat} {ch:List Int} (h:TimV w S S2 xa xc xs e N K a2 c2 ch) (hw:Below w.heap.size w w'):TimV w' S S2 xa xc xs e N K a2 c2 ch:=
  ⟨h.ex.ext hw,h.lt,h.len,h.rows,h.vw,h.rule.ext hw,h.N5,h.K6⟩
theorem timesM_calls (w:World) (s:SysF) (e:Int) (ca sa ta xa a2:Option Addr) (cc sc tc xc c2 m:Nat):Calls Tryz.prog 51 #[.agg #[.int .i64 s.p.n,.int .i64 s.p.ins,.int .i64 s.p.outs,.slice ca s.p.cs.length cc,.int .i64 s.p.an,.slice sa s.p.st.length sc,.int .i64 s.p.rounds,.int .i64 s.tn,.slice ta s.tab.length tc,.slice xa s.ex.length xc],.agg #[.slice a2 m c2],.int .i64 e] w fun q w'=>q=.returned (.func (.func 94) #[] #[.pointer (some ⟨w.heap.size,0,none⟩),.pointer (some ⟨w.heap.size+2,0,none⟩),.pointer (some ⟨w.heap.size+1,0,none⟩)])∧w'=((w.alloc (.cells #[.int .i64 s.p.n,.int .i64 s.p.ins,.int .i64 s.p.outs,.slice ca s.p.cs.length cc,.int .i64 s.p.an,.slice sa s.p.st.length sc,.int .i64 s.p.rounds,.int .i64 s.tn,.slice ta s.tab.length tc,.slice xa s.ex.length xc] 35)).alloc (.cells #[.slice a2 m c2] 38)).alloc (.cells #[.int .i64 e] 3):=by
  go_enter Tryz.func51,Tryz.ntmps51
  go_wp2
  go_ret
  exact ⟨rfl,rfl⟩
theorem SysV.tim {S S2:Nat→Prop} {w:World} {s:SysF} {e:Nat} {ch:List Int} {ca sa ta xa a2:Option Addr} {cc sc tc xc c2:Nat} (hg:GoodS s s.N s.K) (hx:Sl kExec S w (.slice xa s.ex.length xc) s.ex) (h2:Ints S2 w (.slice a2 ch.length c2) ch) (hcl:ch.length=s.tab.length) (he:e<s.ex.length):
    TimV w (fun b=>S b∧b<w.heap.size) (fun b=>S2 b∧b<w.heap.size) xa xc s.ex e s.N s.K a2 c2 ch:=by
  obtain ⟨c,hX⟩:=hg.ex e he
  exact ⟨hx.block,he,hX.len,hX.rows,fun k hk q hq=>by obtain ⟨z,h1,h2,_⟩:=hg.view he hk hq;exact ⟨z,by omega,h2⟩,h2.block 0,by have:=hg.pok.n1.2;omega,hg.K6⟩
theorem pTim_calls {S S2:Nat→Prop} {w:World} {v vch:Value} {s:SysF} {ch:List Int} (e:Int) (h:SysV S w v s) (hf:PFew s.p) (h2:Ints S2 w vch ch):
    Calls Tryz.prog 30 #[v,.agg #[vch],.int .i64 e] w (Post w (TimR w.heap.size s ch e)):=by
  have KV:Hid (∀W,Below w.heap.size w W→Calls Tryz.prog 65 #[v,.agg #[vch],.int .i64 e] W (Post W fun _ r=>r=.int .i64 (sceneE s ch e))):=Lib.hid fun W hW=>pscene_calls e (h.ext hW) hf (h2.ext hW)
  have h8:=h.moves8
  obtain ⟨vc,vs,vt,vx,rfl,hc,hs,ht,hx⟩:=h
  obtain ⟨ca,cc,rfl,_⟩:=hc.form
  obtain ⟨sa,sc,rfl,_⟩:=hs.form
  obtain ⟨ta,tc,rfl,_⟩:=ht.form
  obtain ⟨xa,xc,rfl,xad,_⟩:=hx.form2
  obtain ⟨a2,c2,rfl,_⟩:=h2.form
  have KT:Hid (sceneE s ch e=0→∃m:Nat,e=m∧s.p.n=(s.N:Int)∧s.K≤6∧TimV w (fun b=>S b∧b<w.heap.size) (fun b=>S2 b∧b<w.heap.size) xa xc s.ex m s.N s.K a2 c2 ch):=Lib.hid fun h0=>by
    obtain ⟨j1,j2,j3,j4⟩:=sceneE_ok h0
    obtain ⟨m,rfl⟩:=Int.eq_ofNat_of_zero_le j3
    have hg:=good_sys j1 h8
    exact ⟨m,rfl,by have:=hg.pok.n;exact this,hg.K6,SysV.tim (ca:=ca) (sa:=sa) (ta:=ta) (cc:=cc) (sc:=sc) (tc:=tc) hg hx h2 j2 (by omega)⟩
  have ex:=ext_alloc' (ext_alloc w (.cells #[.int .i64 s.p.n,.int .i64 s.p.ins,.int .i64 s.p.outs,.slice ca s.p.cs.length cc,.int .i64 s.p.an,.slice sa s.p.st.length sc,.int .i64 s.p.rounds,.int .i64 s.tn,.slice ta s.tab.length tc,.slice xa s.ex.length xc] 35)) (.cells #[.slice a2 ch.length c2] 38)
  have R0:=(row_new w [.int .i64 s.p.n,.int .i64 s.p.ins,.int .i64 s.p.outs,.slice ca s.p.cs.length cc,.int .i64 s.p.an,.slice sa s.p.st.length sc,.int .i64 s.p.rounds,.int .i64 s.tn,.slice ta s.tab.length tc,.slice xa s.ex.length xc] 35).alloc (.cells #[.slice a2 ch.length c2] 38)
  have R1:=row_new (w.alloc (.cells #[.int .i64 s.p.n,.int .i64 s.p.ins,.int .i64 s.p.outs,.slice ca s.p.cs.length cc,.int .i64 s.p.an,.slice sa s.p.st.length sc,.int .i64 s.p.rounds,.int .i64 s.tn,.slice ta s.tab.length tc,.slice xa s.ex.length xc] 35)) [.slice a2 ch.length c2] 38
  rw[World.size_alloc]at R1
  have t0:=R0.cell (j:=0) rfl
  have t1:=R0.cell (j:=1) rfl
  have t2:=R0.cell (j:=2) rfl
  have t3:=R0.cell (j:=3) rfl
  have t4:=R0.cell (j:=4) rfl
  have t5:=R0.cell (j:=5) rfl
  have t6:=R0.cell (j:=6) rfl
  have t7:=R0.cell (j:=7) rfl
  have t8:=R0.cell (j:=8) rfl
  have t9:=R0.cell (j:=9) rfl
  have r1:=R1.cell (j:=0) rfl
  have l1:=R1.lt
  have l0:=R0.lt
  have HD:Hid (∀w' r,(sceneE s ch e=0∧(∃u,r=.tuple #[u,.int .i64 0]∧Ints (fun b=>w.heap.size≤b) w' u (rndL s ch e.toNat)))∨(sceneE s ch e≠0∧r=.tuple #[.slice none 0 0,.int .i64 (sceneE s ch e)])→TimR w.heap.size s ch e w' r):=Lib.hid fun w' r h=>h
  obtain ⟨ve,hve⟩:∃x,x=sceneE s ch e:=⟨_,rfl⟩
  rw[←hve]at KV KT HD
  clear hc hs ht hx h2 hf hve xad h8
  refine (callsIn_wide (n:=6)).1 ?_
  refine callsIn_of_wp_marks Tryz.func30 rfl trivial ?_ rfl
  simp only[Tryz.ntmps30,List.size_toArray,List.length_cons,List.length_nil,Nat.reduceAdd,Nat.reduceSub,Array.replicate_succ,Array.replicate_zero,List.push_toArray,List.append_toArray,List.nil_append,List.cons_append]
  refine wpIn_wide.2 ?_
  go_wp2_with fail
  refine (KV.out _ ex).mono ?_
  rintro _ w1 ⟨_,rfl,hb1,rfl⟩
  replace R0:=R0.ext hb1
  replace R1:=R1.ext hb1
  replace ex:=ext_trans ex hb1
  clear t0 t1 t2 t3 t4 t5 t6 t7 t8 t9 l0 r1 l1 hb1 KV
  by_cases hv0:ve=0
  case neg=>
    have d0:(ve !=0)=true:=by simp[hv0]
    have RE:=Lib.hid (HD.out w1 _ (.inr ⟨hv0,rfl⟩))
    clear hv0
    go_wp2
    refine bodyM_ret ?_
    exact ⟨.tuple #[.slice none 0 0,.int .i64 ve],by simp[results,Tryz.results30,go_sem],.mk ex RE.out⟩
  have hs1:=ex.size
  subst hv0
  obtain ⟨m,rfl,hpn,hK6,V⟩:=KT.out rfl
  have HPN:=Lib.hid hpn
  clear hpn
  have d0:((0:Int) !=0)=false:=rfl
  have RO:=row_new w1 [.slice none 0 0] 36
  replace R0:=R0.alloc (.cells #[.slice none 0 0] 36)
  replace R1:=R1.alloc (.cells #[.slice none 0 0] 36)
  replace ex:=ext_alloc' ex (.cells #[.slice none 0 0] 36)
  have t0:=R0.cell (j:=0) rfl
  have t1:=R0.cell (j:=1) rfl
  have t2:=R0.cell (j:=2) rfl
  have t3:=R0.cell (j:=3) rfl
  have t4:=R0.cell (j:=4) rfl
  have t5:=R0.cell (j:=5) rfl
  have t6:=R0.cell (j:=6) rfl
  have t7:=R0.cell (j:=7) rfl
  have t8:=R0.cell (j:=8) rfl
  have t9:=R0.cell (j:=9) rfl
  have r1:=R1.cell (j:=0) rfl
  have l1:=R1.lt
  have l0:=R0.lt
  have KM:=Lib.hid (timesM_calls (w1.alloc (.cells #[.slice none 0 0] 36)) s m ca sa ta xa a2 cc sc tc xc c2 ch.length)
  go_wp2_with fail
  refine KM.out.mono ?_
  rintro _ _ ⟨rfl,rfl⟩
  clear t0 t1 t2 t3 t4 t5 t6 t7 t8 t9 l0 r1 l1 KM R0 R1
  have RS:=((row_new (w1.alloc (.cells #[.slice none 0 0] 36)) [.int .i64 s.p.n,.int .i64 s.p.ins,.int .i64 s.p.outs,.slice ca s.p.cs.length cc,.int .i64 s.p.an,.slice sa s.p.st.length sc,.int .i64 s.p.rounds,.int .i64 s.tn,.slice ta s.tab.length tc,.slice xa s.ex.length xc] 35).alloc (.cells #[.slice a2 ch.length c2] 38)).alloc (.cells #[.int .i64 m] 3)
  have RR:=(row_new ((w1.alloc (.cells #[.slice none 0 0] 36)).alloc (.cells #[.int .i64 s.p.n,.int .i64 s.p.ins,.int .i64 s.p.outs,.slice ca s.p.cs.length cc,.int .i64 s.p.an,.slice sa s.p.st.length sc,.int .i64 s.p.rounds,.int .i64 s.tn,.slice ta s.tab.length tc,.slice xa s.ex.length xc] 35)) [.slice a2 ch.length c2] 38).alloc (.cells #[.int .i64 m] 3)
  have REE:=row_new (((w1.alloc (.cells #[.slice none 0 0] 36)).alloc (.cells #[.int .i64 s.p.n,.int .i64 s.p.ins,.int .i64 s.p.outs,.slice ca s.p.cs.length cc,.int .i64 s.p.an,.slice sa s.p.st.length sc,.int .i64 s.p.rounds,.int .i64 s.tn,.slice ta s.tab.length tc,.slice xa s.ex.length xc] 35)).alloc (.cells #[.slice a2 ch.length c2] 38)) [.int .i64 m] 3
  replace RO:=((RO.alloc (.cells #[.int .i64 s.p.n,.int .i64 s.p.ins,.int .i64 s.p.outs,.slice ca s.p.cs.length cc,.int .i64 s.p.an,.slice sa s.p.st.length sc,.int .i64 s.p.rounds,.int .i64 s.tn,.slice ta s.tab.length tc,.slice xa s.ex.length xc] 35)).alloc (.cells #[.slice a2 ch.length c2] 38)).alloc (.cells #[.int .i64 m] 3)
  replace ex:=ext_alloc' (ext_alloc' (ext_alloc' ex (.cells #[.int .i64 s.p.n,.int .i64 s.p.ins,.int .i64 s.p.outs,.slice ca s.p.cs.length cc,.int .i64 s.p.an,.slice sa s.p.st.length sc,.int .i64 s.p.rounds,.int .i64 s.tn,.slice ta s.tab.length tc,.slice xa s.ex.length xc] 35)) (.cells #[.slice a2 ch.length c2] 38)) (.cells #[.int .i64 m] 3)
  have hz0:((((w1.alloc (.cells #[.slice none 0 0] 36)).alloc (.cells #[.int .i64 s.p.n,.int .i64 s.p.ins,.int .i64 s.p.outs,.slice ca s.p.cs.length cc,.int .i64 s.p.an,.slice sa s.p.st.length sc,.int .i64 s.p.rounds,.int .i64 s.tn,.slice ta s.tab.length tc,.slice xa s.ex.length xc] 35)).alloc (.cells #[.slice a2 ch.length c2] 38)).alloc (.cells #[.int .i64 m] 3)).heap.size=w1.heap.size+4:=by simp
  simp only[World.size_alloc]at RS RR REE
  obtain ⟨B,hB⟩:∃B,B=w1.heap.size:=⟨_,rfl⟩
  obtain ⟨w0,hw0⟩:∃w0,w0=(((w1.alloc (.cells #[.slice none 0 0] 36)).alloc (.cells #[.int .i64 s.p.n,.int .i64 s.p.ins,.int .i64 s.p.outs,.slice ca s.p.cs.length cc,.int .i64 s.p.an,.slice sa s.p.st.length sc,.int .i64 s.p.rounds,.int .i64 s.tn,.slice ta s.tab.length tc,.slice xa s.ex.length xc] 35)).alloc (.cells #[.slice a2 ch.length c2] 38)).alloc (.cells #[.int .i64 m] 3):=⟨_,rfl⟩
  have hBw:w.heap.size≤B:=by rw[hB];exact hs1
  rw[←hw0]at RS RR REE RO ex hz0 ⊢
  simp only[←hB,World.size_alloc,Nat.add_assoc,Nat.reduceAdd]at RS RR REE RO hz0 ⊢
  rw[HPN.out]at RS
  clear hw0 hB hs1 HPN
  have hTw:∀b,(b<B+4∧b≠B)→b<w0.heap.size:=fun b hb=>by omega
  have HST:=times_stops (T:=fun b=>b<B+4∧b≠B) (n:=5) (by decide) RS REE RR (V.ext ex) ⟨by omega,by omega⟩ ⟨by omega,by omega⟩ ⟨by omega,by omega⟩ (fun b hb=>⟨by have:=hb.2;omega,by have:=hb.2;omega⟩) (fun b hb=>⟨by have:=hb.2;omega,by have:=hb.2;omega⟩) hTw
  have HF:Hid (∀W' rv,Ints (fun b=>w.heap.size≤b) W' rv (rndsTo ch (nthX s.ex m).vs s.K s.N)→TimR w.heap.size s ch m W' (.tuple #[rv,.int .i64 0])):=Lib.hid fun W' rv h=>HD.out _ _ (.inl ⟨(by first | exact trivial | rfl),_,rfl,by rw[Int.toNat_natCast];exact h⟩)
  have HWF:=Lib.hid (rndsTo_wf ch (nthX s.ex m).vs hK6 s.N)
  have hN5:=V.N5
  clear RS RR REE V HD KT
  obtain ⟨f,hf⟩:∃f,f=fun q:Nat=>rndQ ch (nthX s.ex m).vs s.K q:=⟨_,rfl⟩
  have HFL:Hid (rndsTo ch (nthX s.ex m).vs s.K s.N=(List.range s.N).map f):=Lib.hid (by rw[hf];rfl)
  have hfx:∀x,rndQ ch (nthX s.ex m).vs s.K x=f x:=fun x=>by rw[hf]
  simp only[hfx]at HST
  clear hf hfx
  go_wp2
  refine wpIn_wide (n:=6).1 ?_
  apply wpIn_rangeFunc_ownF (n:=6) rfl (by decide) (gf:=94) (lb:=#[.pointer (some ⟨B+1,0,none⟩),.pointer (some ⟨B+3,0,none⟩),.pointer (some ⟨B+2,0,none⟩)]) rfl trivial (enters_of Tryz.func94 (by kernel_rfl) rfl)
    HST agreeK_t (agreeK_b hTw) (Below.refl _ _) (fun _=>rfl)
    (fun (pre:List {x:Nat // x<s.N}) W=>∃rv,Row W B 36 [rv]∧W.ownsRow (B+4) 3 1 rv pre.length ((pre.map fun x=>f x.1).map (Value.int .i64))∧Below w.heap.size w W∧B+4≤W.heap.size)
    (fun c (pre:List {x:Nat // x<s.N}) W=>False)
    (fun pre A C row h hg hr=>by
      obtain ⟨rv,h1,h2,h3,h4⟩:=h
      exact ⟨rv,h1.grown hg (fun e=>by have:=(hr _ e).1;omega),owns_from h2 hg hr,h3.grown hg h3.size (fun k hk=>by have:=(hr k hk).1;omega),by have:=hg.size;omega⟩)
    (fun c=>ownFrom_false _) ⟨_,RO,World.ownsRow_nil _ _ _ _,ex,by omega⟩
  case hassign=>
    intro l x W Kq hK
    have hK:=Lib.hid hK
    gi_wp2
    exact hK.out
  case hbody=>
    rintro l pre x W ⟨rv,P2,hO,hBW,hsz⟩ hlen
    have hl1:∀y,(pre++[x]).map (fun x:{x:Nat // x<s.N}=>f x.1)=pre.map (fun x:{x:Nat // x<s.N}=>f x.1)++[y]↔f x.1=y:=fun y=>by simp
    have c2:=P2.cell (j:=0) rfl
    have ORW:=Lib.hid hO
    have HNE:Hid (∀k,rv.ownBlock=some k→B+4≤k∧k<W.heap.size):=Lib.hid (fun k hk=>hO.lt k hk)
    have zP2:=P2.lt
    obtain ⟨pl,hpl⟩:∃pl,pl=pre.length:=⟨_,rfl⟩
    rw[←hpl]at hlen ORW
    have HPL:=Lib.hid hpl
    obtain ⟨y,hy⟩:∃y,y=f x.1:=⟨_,rfl⟩
    have HX:=Lib.hid ((hl1 y).2 hy.symm)
    rw[←hy]
    clear hO hpl hl1 hy
    gi_wp2_with (gi_at_builtin;refine wpListIn_push rfl _ _ 36 rfl 3 _ 8 Tryz.underlying36 info_int rfl (B+4) _ _ _ rfl ORW.out (.int .i64 y) rfl rfl (by omega) (by omega) (by omega) ?_;intro g6 cp6 w6 hown6 hgr6 hat6;have R6:=(P2.alloc (.cells #[.int .i64 y] 3)).grown hgr6 (fun e=>by have:=(HNE.out _ e).1;omega);have f6:=R6.free 0;have c6:=R6.cell (j:=0) rfl)
    have hset:=grownBy_setCell w6 B 0 (.slice (some ⟨g6,0,none⟩) (pl+1) cp6)
    have P6:=R6.set 0 (.slice (some ⟨g6,0,none⟩) (pl+1) cp6)
    have hlt6:=(hown6.lt g6 rfl).1
    have hs6:=hBW.size
    have hg6:=hgr6.size
    have ha6:(W.alloc (.cells #[.int .i64 y] 3)).heap.size=W.heap.size+1:=by simp
    refine ⟨((KeepsOthers.alloc W _).trans (.of_grownBy hgr6 fun j o hj ho=>?_)).trans (.setCell _ _ _),((Agree.of_grown (World.grownBy_alloc W (.cells #[.int .i64 y] 3) none) (by simp)).trans (.of_grown hgr6 fun k hk e=>?_)).trans (.of_grown hset fun k hk e=>?_),_,P6,?_,((hBW.alloc hBW.size _).grown hgr6 (by rw[ha6];omega) fun k hk=>?_).setCell (by simp;omega) _,by have:=hset.size;omega⟩
    · rcases ORW.out.2 with ⟨rfl,_⟩ | ⟨g,cap,cur,rfl,_,hc,_⟩
      · cases hj
      · cases hj
        rw[(Below.heap_alloc W _ _ (Array.getElem?_eq_some_iff.1 hc).1).trans hc]at ho
        cases ho
        rfl
    · have:=(HNE.out k e).1;omega
    · cases e;omega
    · rw[HX.out,List.map_append,List.length_append,←HPL.out]
      exact owns_agree (S:=fun b=>b≠B) hown6 (.of_grown hset fun k hk e=>by cases e;exact hk rfl) (fun k hk=>by have:=(hown6.lt k hk).1;show k≠_;omega)
    · have:=(HNE.out k hk).1;omega
  case hstop=>
    rintro D c pre W hD hSp h hK
    exact h.elim
  case hdone=>
    rintro D xs W hD hS ⟨rv,P2,hO,hBW,hsz⟩ hK
    have c2:=P2.cell (j:=0) rfl
    have hl2:xs.map (fun x:{x:Nat // x<s.N}=>f x.1)=rndsTo ch (nthX s.ex m).vs s.K s.N:=by rw[HFL.out,←hS,List.map_map];rfl
    rw[hl2]at hO
    have hB9:=hBW.grown (grownBy_putObj' W D (.deferred none)) hBW.size (fun k hk=>by cases hk;omega)
    have hO9:=ownsRow_putObj hO (.deferred none) hK rfl
    have hI:=(Ints.of_own hO9 HWF.out).mono (S':=fun b=>w.heap.size≤b) fun b hb=>by omega
    have HKD:=Lib.hid hK
    have RE:=Lib.hid (HF.out _ _ hI)
    have HB9:=Lib.hid hB9
    clear hO hS hl2 hO9 hI hB9 hK
    go_wp2
    refine bodyM_ret (leaves_one HKD.out ?_)
    exact ⟨.tuple #[rv,.int .i64 0],by simp[results,Tryz.results30,go_sem],.mk HB9.out RE.out⟩
end Go.Proofs.YtcopehiceihdaaaGreat
