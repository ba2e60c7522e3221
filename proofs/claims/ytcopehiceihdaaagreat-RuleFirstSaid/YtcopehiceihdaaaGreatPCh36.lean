/- Part of the proof that the laws of chapter 45 answer true for every input. -/
import Derived.Test.YtcopehiceihdaaaGreatPCh35
import Derived.Test.YtcopehiceihdaaaGreatPCh23
import Derived.Test.YtcopehiceihdaaaGreatPCh10
set_option linter.unusedSimpArgs false
set_option linter.unnecessarySimpa false
set_option linter.unusedVariables false
set_option maxRecDepth 100000
set_option maxHeartbeats 40000000
namespace Go.Proofs.YtcopehiceihdaaaGreat
open Go.RowKit Go.Shelf
attribute [local go_sem ↓] Go.wp_at_zero Go.wp_at_succ
theorem minT_up {f:Nat→Bool} {K m:Nat} (hm:m≤K):minT f m (K+1 - m)=if f m then (m:Int) else minT f (m+1) (K+1 - (m+1)):=minT_down hm
theorem range_prefix {k N:Nat} (h:k≤N):List.range k<+:List.range N:=by
  obtain ⟨d,rfl⟩:∃d,N=k+d:=⟨N - k,by omega⟩
  rw[List.range_add]
  exact List.prefix_append _ _
theorem grownBy_drewN (w:World) (n:Nat):w.grownBy (w.drewN n) none:=⟨rfl,rfl,rfl,Nat.le_refl _,fun _ _ _=>rfl⟩
theorem QW.grown {w w':World} (h:QW w w'):w.grownBy w' none:=by obtain ⟨n,rfl⟩:=h;exact grownBy_drewN w n
theorem abides_q {β:Type} {B:Nat} {J:β→World→Prop} (hJ:AbidesFrom B J) {s:β} {W W':World} (h:J s W) (hq:QW W W'):J s W':=hJ s W W' none h hq.grown (fun r e=>by cases e)
structure TimV (w:World) (S S2:Nat→Prop) (xa:Option Addr) (xc:Nat) (xs:List ExecD) (e N K:Nat) (a2:Option Addr) (c2:Nat) (ch:List Int):Prop where
  ex:Sl kExec S w (.slice xa xs.length xc) xs
  lt:e<xs.length
  len:(nthX xs e).vs.length=K+1
  rows:∀k,k≤K→(nthL (nthX xs e).vs k).length=N
  vw:∀k,k≤K→∀q,q<N→∃z:Nat,z<ch.length∧nth (nthL (nthX xs e).vs k) q=z
  rule:Ints S2 w (.slice a2 ch.length c2) ch
  N5:N≤5
  K6:K≤6
theorem times_stops {S S2 T:Nat→Prop} {w:World} {n B1 B2 B3 N K e:Nat} (hn:1≤n) {p1 p2 p3 p4 p5 p6 p7 p8:Value} {xa a2:Option Addr} {xc c2:Nat} {xs:List ExecD} {ch:List Int}
    (R1:Row w B1 35 [.int .i64 N,p1,p2,p3,p4,p5,p6,p7,p8,.slice xa xs.length xc]) (R2:Row w B2 3 [.int .i64 e]) (R3:Row w B3 38 [.slice a2 ch.length c2]) (V:TimV w S S2 xa xc xs e N K a2 c2 ch)
    (hT1:T B1) (hT2:T B2) (hT3:T B3) (hTS:∀b,S b→T b) (hTS2:∀b,S2 b→T b) (hTw:∀b,T b→b<w.heap.size):
    SeqStopsK Fence.wide n Tryz.prog 94 #[.pointer (some ⟨B1,0,none⟩),.pointer (some ⟨B2,0,none⟩),.pointer (some ⟨B3,0,none⟩)] (fun x:{x:Nat // x<N}=>#[.int .i64 x.1,.int .i64 (rndQ ch (nthX xs e).vs K x.1)]) (Agree T) (fun l=>l.map (·.1)=List.range N) (fun pre=>pre.map (·.1)<+:List.range N) N w:=by
  intro l J Jx W hW hJ hJx hY h0
  have he:=V.lt
  have hN5:=V.N5
  have hK6:=V.K6
  have hLE:=V.len
  obtain ⟨_,_,hee0,xad,_⟩:=V.ex.form2
  cases hee0
  have q1:=idx_exec xad e he
  obtain ⟨a1,c1,a3,c3,z0,z1,z2,i1,i2⟩:=V.ex.exec he
  have HR:=V.rule
  have HLN0:=V.rows
  have HVW0:=V.vw
  obtain ⟨vs,hvs⟩:∃vs,vs=(nthX xs e).vs:=⟨_,rfl⟩
  rw[←hvs]at z2 i2 hLE HLN0 HVW0
  simp only[←hvs]at hY
  have HLN:=Lib.hid HLN0
  have HVW:=Lib.hid HVW0
  have HY:=Lib.hid hY
  have H0:=Lib.hid h0
  have HJ:=Lib.hid hJ
  have R1:=R1.ext hW
  have R2:=R2.ext hW
  have R3:=R3.ext hW
  have HR3:Hid (∀W',Agree T W W'→Row W' B3 38 [.slice a2 ch.length c2]):=Lib.hid fun W' h=>R3.agree h hT3
  have HVS:Hid (∀W',Agree T W W'→Lists S W' (.slice a3 vs.length c3) vs):=Lib.hid fun W' h=>Lists.agree i2 ((Agree.of_ext hW).trans (h.mono hTS))
  have HRU:Hid (∀W',Agree T W W'→Ints S2 W' (.slice a2 ch.length c2) ch):=Lib.hid fun W' h=>HR.agree ((Agree.of_ext hW).trans (h.mono hTS2))
  obtain ⟨_,_,hee,ad2,_⟩:=Lists.form i2
  cases hee
  obtain ⟨i0,hi,_,hz1,_⟩:=info_parts info_ints
  have Q2:=Lib.hid (idx_one Tryz.underlying66 hi hz1 ad2)
  obtain ⟨L,hL⟩:∃L,L=vs.length:=⟨_,rfl⟩
  rw[←hL]at z2 hLE HVS Q2
  have HL:=Lib.hid hLE
  have HLV:=Lib.hid hL.symm
  have z2':=cell_ext z2 hW
  have bk:=World.block_lt_of_cell? _ _ z2'
  have t0:=R1.cell (j:=0) rfl
  have t9:=R1.cell (j:=9) rfl
  have te:=R2.cell (j:=0) rfl
  have l1:=R1.lt
  have l2:=R2.lt
  have hag:Agree T W W:=.refl _ _
  have hLm:L≤7:=by omega
  clear hJ hJx hY h0 hTS hTS2 hTw R1 R2 R3 V z0 z1 z2 i1 i2 hvs HLN0 HVW0 HR ad2 hi hz1 hL hLE xad hT1 hT2 hT3
  refine callsIn_of_wp Tryz.func94 rfl trivial ?_ rfl
  simp only[Tryz.ntmps94,List.size_toArray,List.length_cons,List.length_nil,Nat.reduceAdd,Nat.reduceSub,Array.replicate_succ,Array.replicate_zero,List.push_toArray,List.append_toArray,List.nil_append,List.cons_append]
  gi_wp2
  clear t0 t9 te l1 l2 z2' bk q1
  gi_loopw [6,7,8,19] (fun _ _ _ i wr=>∃(k:Nat) (pre:List {x:Nat // x<N}),k≤N∧i=.int .i64 k∧Hid (J pre wr)∧Hid (pre.map (·.1)=List.range k)∧Agree T W wr) (fun _ _ _ i _=>N - (intOf i).toNat)
  case atStart=>exact ⟨0,[],Nat.zero_le _,rfl,H0,Lib.hid rfl,hag⟩
  case round=>
    obtain ⟨k,pre,hk,rfl,HJs,HP,hA⟩:=hrel
    obtain ⟨wo,hwo⟩:∃wo:World,wo=wr:=⟨_,rfl⟩
    rw[←hwo]at HJs hA ⊢
    clear hwo
    by_cases hlt:k<N
    case neg=>
      obtain rfl:k=N:=by omega
      gi_wp2
      go_end0
      exact ⟨⟨_,rfl⟩,.inl ⟨pre,HP.out,HJs.out⟩⟩
    have HPN:Hid ((pre++[(⟨k,hlt⟩:{x:Nat // x<N})]).map (·.1)=List.range (k+1)):=Lib.hid (by rw[List.range_succ,List.map_append,HP.out];rfl)
    have HPX:Hid ((pre++[(⟨k,hlt⟩:{x:Nat // x<N})]).map (·.1)<+:List.range N):=Lib.hid (by rw[HPN.out];exact range_prefix hlt)
    have hpl:pre.length<N:=by
      have h2:=congrArg List.length HP.out
      rw[List.length_map,List.length_range]at h2
      omega
    gi_wp2
    gi_loopw [7,8,24] (fun at' _ i wi=>∃m:Nat,m≤L∧i=.int .i64 m∧at'=.int .i64 (-1)∧Hid (J pre wi)∧Agree T W wi∧Hid (rndQ ch vs K k=minT (decAt ch vs k) m (K+1 - m))) (fun _ _ i _=>L - (intOf i).toNat)
    case atStart=>exact ⟨0,Nat.zero_le _,rfl,rfl,HJs,hA,Lib.hid rfl⟩
    case round=>
      clear HJs HP hA
      obtain ⟨m,hm,rfl,rfl,HJs,hA,HM⟩:=hrel
      by_cases hml:m<L
      case neg=>
        obtain rfl:m=L:=by omega
        have hx:(-1:Int)=rndQ ch vs K k:=by rw[HM.out,HL.out,Nat.sub_self];rfl
        clear HM hml
        obtain ⟨fn,tmps,assign,body,hyy,hRnd⟩:=HY.out pre ⟨k,hlt⟩ _ HJs.out hpl
        dsimp only at hyy
        rw[←hx]at hyy
        clear hx
        gi_wp2
        refine hRnd.mono ?_
        rintro e W3 (⟨rfl,hJ3,hk3⟩ | ⟨rfl,hJx3⟩)
        · have HJ3:=Lib.hid hJ3
          have hA3:=hA.trans hk3
          clear hJ3 hyy hRnd
          gi_wp2
          go_roundw
          case rel=>exact ⟨k+1,_,by omega,by go_num,HJ3,HPN,hA3⟩
          case measure=>simp[intOf];omega
        · have HJ3:=Lib.hid hJx3
          clear hJx3 hyy hRnd
          gi_wp2
          refine bodyPost_ret (results_none rfl _ _ _) rfl ?_
          exact ⟨⟨_,rfl⟩,.inr ⟨_,HPX.out,HJ3.out⟩⟩
      have hmK:m≤K:=by have:=HL.out;omega
      have MU:=Lib.hid (minT_up (f:=decAt ch vs k) hmK)
      obtain ⟨z,hzc,hz⟩:=HVW.out m hmK k hlt
      have hdd:decAt ch vs k m=decide (0≤nth ch z):=by unfold decAt;rw[hz];rfl
      rw[hdd]at MU
      have q2:=Q2.out m hml
      have hmv:m<vs.length:=by rw[HLV.out];exact hml
      have hvl:=HVS.out wr hA
      rw[←HLV.out]at hvl
      obtain ⟨u,cu,iu⟩:=hvl.at (.refl _ _) hmv
      clear hvl
      obtain ⟨fa,fc,rfl,_⟩:=iu.form
      have hjn:k<(nthL vs m).length:=by rw[HLN.out m hmK];exact hlt
      have q3:=iu.idx hjn
      have cl:=iu.cellN hjn
      rw[hz]at cl
      have bu:=World.block_lt_of_cell? _ _ cu
      have bl:=World.block_lt_of_cell? _ _ cl
      have q4:=(HRU.out wr hA).idx hzc
      have cc:=(HRU.out wr hA).cellN hzc
      have bc:=World.block_lt_of_cell? _ _ cc
      have r3:=(HR3.out wr hA).cell (j:=0) rfl
      have l3:=(HR3.out wr hA).lt
      obtain ⟨x,hx⟩:∃x,x=nth ch z:=⟨_,rfl⟩
      rw[←hx]at MU cc
      clear hdd hx hz hjn iu hmv
      by_cases hx0:0≤x
      · have d1:decide (0≤x)=true:=decide_eq_true hx0
        rw[d1,if_pos rfl]at MU
        clear hx0
        gi_wp2
        refine wpIn_wide.2 ?_
        go_quiet (fail)
        refine draw_then fun w4 hq4=>?_
        replace HJs:=Lib.hid (abides_q HJ.out HJs.out hq4)
        replace hA:=hA.trans (Agree.of_ext hq4.ext)
        have hx:(m:Int)=rndQ ch vs K k:=by rw[HM.out,MU.out]
        clear cu cl cc r3 l3 bu bl bc q2 q3 q4 hq4 MU HM d1
        obtain ⟨fn,tmps,assign,body,hyy,hRnd⟩:=HY.out pre ⟨k,hlt⟩ _ HJs.out hpl
        dsimp only at hyy
        rw[←hx]at hyy
        clear hx
        gi_wp2
        refine hRnd.mono ?_
        rintro e W3 (⟨rfl,hJ3,hk3⟩ | ⟨rfl,hJx3⟩)
        · have HJ3:=Lib.hid hJ3
          have hA3:=hA.trans hk3
          clear hJ3 hyy hRnd
          gi_wp2
          go_roundw
          case rel=>exact ⟨k+1,_,by omega,by go_num,HJ3,HPN,hA3⟩
          case measure=>simp[intOf];omega
        · have HJ3:=Lib.hid hJx3
          clear hJx3 hyy hRnd
          gi_wp2
          refine bodyPost_ret (results_none rfl _ _ _) rfl ?_
          exact ⟨⟨_,rfl⟩,.inr ⟨_,HPX.out,HJ3.out⟩⟩
      · have d1:decide (0≤x)=false:=decide_eq_false hx0
        rw[d1,if_neg (by simp)]at MU
        clear hx0
        gi_wp2
        refine wpIn_wide.2 ?_
        go_quiet (fail)
        refine draw_then fun w4 hq4=>?_
        replace HJs:=Lib.hid (abides_q HJ.out HJs.out hq4)
        replace hA:=hA.trans (Agree.of_ext hq4.ext)
        have HM2:Hid (rndQ ch vs K k=minT (decAt ch vs k) (m+1) (K+1 - (m+1))):=Lib.hid (by rw[HM.out,MU.out])
        clear cu cl cc r3 l3 bu bl bc q2 q3 q4 hq4 MU HM d1
        gi_wp2
        go_roundw
        case rel=>exact ⟨m+1,by omega,by go_num,rfl,HJs,hA,HM2⟩
        case measure=>simp[intOf];omega
end Go.Proofs.YtcopehiceihdaaaGreat
namespace Go.Proofs.YtcopehiceihdaaaGreat
open Go.RowKit Go.Shelf
attribute [local go_sem ↓] Go.wp_at_zero Go.wp_at_succ
attribute [local go_sem] Oper.semAt_some
theorem TimV.ext {w w':World} {S S2:Nat→Prop} {xa:Option Addr} {xc:Nat} {xs:List ExecD} {e N K:Nat} {a2:Option Addr} {c2:Nat} {ch:List Int} (h:TimV w S S2 xa xc xs e N K a2 c2 ch) (hw:Below w.heap.size w w'):TimV w' S S2 xa xc xs e N K a2 c2 ch:=
  ⟨h.ex.ext hw,h.lt,h.len,h.rows,h.vw,h.rule.ext hw,h.N5,h.K6⟩
theorem timesM_calls (w:World) (s:SysF) (e:Int) (ca sa ta xa a2:Option Addr) (cc sc tc xc c2 m:Nat):Calls Tryz.prog 51 #[.agg #[.int .i64 s.p.n,.int .i64 s.p.ins,.int .i64 s.p.outs,.slice ca s.p.cs.length cc,.int .i64 s.p.an,.slice sa s.p.st.length sc,.int .i64 s.p.rounds,.int .i64 s.tn,.slice ta s.tab.length tc,.slice xa s.ex.length xc],.agg #[.slice a2 m c2],.int .i64 e] w fun q w'=>q=.returned (.func (.func 94) #[] #[.pointer (some ⟨w.heap.size,0,none⟩),.pointer (some ⟨w.heap.size+2,0,none⟩),.pointer (some ⟨w.heap.size+1,0,none⟩)])∧w'=((w.alloc (.cells #[.int .i64 s.p.n,.int .i64 s.p.ins,.int .i64 s.p.outs,.slice ca s.p.cs.length cc,.int .i64 s.p.an,.slice sa s.p.st.length sc,.int .i64 s.p.rounds,.int .i64 s.tn,.slice ta s.tab.length tc,.slice xa s.ex.length xc] 35)).alloc (.cells #[.slice a2 m c2] 38)).alloc (.cells #[.int .i64 e] 3):=by
  go_enter Tryz.func51,Tryz.ntmps51
  go_wp2
  go_ret
  exact ⟨rfl,rfl⟩
theorem SysV.tim {S S2:Nat→Prop} {w:World} {s:SysF} {e:Nat} {ch:List Int} {ca sa ta xa a2:Option Addr} {cc sc tc xc c2:Nat} (hg:GoodS s s.N s.K) (hx:Sl kExec S w (.slice xa s.ex.length xc) s.ex) (h2:Ints S2 w (.slice a2 ch.length c2) ch) (hcl:ch.length=s.tab.length) (he:e<s.ex.length):
    TimV w (fun b=>S b∧b<w.heap.size) (fun b=>S2 b∧b<w.heap.size) xa xc s.ex e s.N s.K a2 c2 ch:=by
  obtain ⟨c,hX⟩:=hg.ex e he
  exact ⟨hx.block,he,hX.len,hX.rows,fun k hk q hq=>by obtain ⟨z,h1,h2,_⟩:=hg.view he hk hq;exact ⟨z,by omega,h2⟩,h2.block 0,by have:=hg.pok.n1.2;omega,hg.K6⟩
end Go.Proofs.YtcopehiceihdaaaGreat
