/- Part of the proof that the laws of chapter 45 answer true for every input. -/
import Derived.Test.YtcopehiceihdaaaGreatPCa35
set_option linter.unusedSimpArgs false
set_option linter.unnecessarySimpa false
set_option linter.unusedVariables false
set_option maxRecDepth 100000
set_option maxHeartbeats 40000000
namespace Go.Proofs.YtcopehiceihdaaaGreat
open Go.RowKit
attribute [local go_sem ↓] Go.wp_at_zero Go.wp_at_succ
theorem Ints.cellN {S:Nat→Prop} {w:World} {a:Option Addr} {c n:Nat} {l:List Int} (h:Ints S w (.slice a n c) l) {k:Nat} (hk:k<l.length):w.cell? (adr a k)=some (.int .i64 (nth l k)):=by
  obtain ⟨_,_,he,_⟩:=h.form
  cases he
  have cc0:=ints_cells h (.refl _ _) k hk
  have hcv:(l.map (Value.int .i64)).getD k undef=.int .i64 (nth l k):=by rw[List.getD_eq_getElem?_getD,List.getElem?_map,get?_nth hk];rfl
  rw[hcv]at cc0
  exact cc0
theorem Ints.idx {S:Nat→Prop} {w:World} {a:Option Addr} {c n:Nat} {l:List Int} (h:Ints S w (.slice a n c) l) {k:Nat} (hk:k<l.length) (W:World):(Instr.indexAt 36 (.slice a n c) (.int .i64 k)).run Tryz.prog W=.ok (.pointer (some (adr a k))) W:=by
  obtain ⟨_,_,he,ad,_⟩:=h.form
  cases he
  obtain ⟨i0,hi,_,hz1,_⟩:=info_parts info_int
  exact idx_one Tryz.underlying36 hi hz1 ad k hk W
def valueL (T:List (List Int)) (ch bf l:List Int) (v:Nat):Int:=
  if l.length=0 then (if befV T v<0 then -1 else nth bf (befV T v).toNat) else if∀x∈l,nth ch x.toNat=nth ch (nth l 0).toNat then nth ch (nth l 0).toNat else -1
def earlyTo (T:List (List Int)) (D ch:List Int):Nat→List Int
  | 0=>[]
  | k+1=>earlyTo T D ch k++[valueL T ch (earlyTo T D ch k) (laterL T D k) k]
theorem earlyTo_len (T:List (List Int)) (D ch:List Int):∀k,(earlyTo T D ch k).length=k
  | 0=>rfl
  | k+1=>by unfold earlyTo;simp[earlyTo_len T D ch k]
theorem rvalue_calls {S S1 S2 S3:Nat→Prop} {w:World} {v vch vbf vl:Value} {s:SysF} {N K:Nat} {ch bf l:List Int} (u:Nat) (h:SysV S w v s) (hT:TabOK N K s.tab) (hu:u<s.tab.length) (h1:Ints S1 w vch ch) (h2:Ints S2 w vbf bf) (h3:Ints S3 w vl l) (hbl:bf.length=u) (hl:∀x∈l,∃z:Nat,x=z∧z<ch.length):
    Calls Tryz.prog 119 #[v,vch,vbf,vl,.int .i64 u] w (Post w fun _ r=>r=.int .i64 (valueL s.tab ch bf l u)):=by
  obtain ⟨vc,vs,vt,vx,rfl,hc,hs,ht,hx⟩:=h
  obtain ⟨ca,cc,rfl,_⟩:=hc.form
  obtain ⟨sa,sc,rfl,_⟩:=hs.form
  obtain ⟨ta,tc,rfl,_⟩:=ht.form
  obtain ⟨xa,xc,rfl,_⟩:=hx.form
  obtain ⟨a1,c1,rfl,_⟩:=h1.form
  obtain ⟨a2,c2,rfl,_⟩:=h2.form
  obtain ⟨a3,c3,rfl,_⟩:=h3.form
  have hm3:=h3.len
  unfold maxLen at hm3
  have KB:Hid (∀W,Below w.heap.size w W→Calls Tryz.prog 89 #[.agg #[.int .i64 s.tn,.slice ta s.tab.length tc],.int .i64 u] W (Post W fun _ r=>r=.int .i64 (befV s.tab u))):=Lib.hid fun W hW=>rbefore_calls _ (ht.ext hW) hT hu
  have HBF:=Lib.hid (hT.bef hu)
  have H1:=Lib.hid h1
  have H2:=Lib.hid h2
  have H3:=Lib.hid h3
  have HL:=Lib.hid hl
  have HBL:=Lib.hid hbl
  obtain ⟨n2,hn2⟩:∃n,n=bf.length:=⟨_,rfl⟩
  rw[←hn2]at H2 ⊢
  obtain ⟨n1,hn1⟩:∃n,n=ch.length:=⟨_,rfl⟩
  rw[←hn1]at H1 ⊢
  clear hbl hn2 hn1
  have ex:=ext_alloc w (.cells #[.int .i64 s.p.n,.int .i64 s.p.ins,.int .i64 s.p.outs,.slice ca s.p.cs.length cc,.int .i64 s.p.an,.slice sa s.p.st.length sc,.int .i64 s.p.rounds,.int .i64 s.tn,.slice ta s.tab.length tc,.slice xa s.ex.length xc] 35)
  have R0:=row_new w [.int .i64 s.p.n,.int .i64 s.p.ins,.int .i64 s.p.outs,.slice ca s.p.cs.length cc,.int .i64 s.p.an,.slice sa s.p.st.length sc,.int .i64 s.p.rounds,.int .i64 s.tn,.slice ta s.tab.length tc,.slice xa s.ex.length xc] 35
  have t7:=R0.cell (j:=7) rfl
  have t8:=R0.cell (j:=8) rfl
  have l0:=R0.lt
  obtain ⟨r,hr⟩:∃r,r=valueL s.tab ch bf l u:=⟨_,rfl⟩
  rw[←hr]
  unfold valueL at hr
  clear hc hs ht hx h1 h2 h3 hT hl
  by_cases hz:l.length=0
  · rw[if_pos hz]at hr
    have d0:((l.length:Int)==0)=true:=by simp[hz]
    have HR:=Lib.hid hr
    obtain ⟨n3,hn3⟩:∃n,n=l.length:=⟨_,rfl⟩
    rw[←hn3]at d0 ⊢
    clear hr hz hn3
    go_enter Tryz.func119,Tryz.ntmps119
    go_wp2_with fail
    refine (KB.out _ ex).mono ?_
    rintro _ w1 ⟨_,rfl,hb1,rfl⟩
    replace ex:=ext_trans ex hb1
    clear t7 t8 l0 KB R0 hb1
    rcases HBF.out with hbv | ⟨z,hz,hbv⟩
    · have RR:Hid (r= -1):=Lib.hid (by rw[HR.out,if_pos (by omega)])
      rw[hbv]
      go_wp2
      go_ret
      exact .mk ex (int_eq RR.out.symm)
    · have hnb:¬befV s.tab u<0:=by omega
      have RR:Hid (r=nth bf z):=Lib.hid (by rw[HR.out,if_neg hnb,hbv,Int.toNat_natCast])
      clear hnb
      have hzb:z<bf.length:=by have:=HBL.out;omega
      have q1:=H2.out.idx hzb
      have cc0:=(H2.out.ext ex).cellN hzb
      have hbk:=World.block_lt_of_cell? _ _ cc0
      have d1:decide ((z:Int)<0)=false:=decide_eq_false (by omega)
      rw[hbv]
      clear hbv HR
      go_wp2
      go_ret
      exact .mk ex (int_eq RR.out.symm)
  · rw[if_neg hz]at hr
    have d0:((l.length:Int)==0)=false:=by rw[beq_eq_false_iff_ne];omega
    have hl0:0<l.length:=by omega
    obtain ⟨z0,hz0,hz0l⟩:=HL.out (nth l 0) (nth_mem hl0)
    rw[hz0,Int.toNat_natCast]at hr
    obtain ⟨y0,hy0⟩:∃y,y=nth ch z0:=⟨_,rfl⟩
    rw[←hy0]at hr
    have HR:=Lib.hid hr
    have HY0:=Lib.hid hy0
    have HZ0:=Lib.hid hz0
    have q0:∀W:World,(Instr.indexAt 36 (.slice a3 l.length c3) (.int .i64 0)).run Tryz.prog W=.ok (.pointer (some (adr a3 0))) W:=H3.out.idx hl0
    have q2:=H1.out.idx hz0l
    clear hr hz hy0 hz0 t7 t8 KB
    go_enter Tryz.func119,Tryz.ntmps119
    go_wp2
    go_loopw [12] (fun i wr=>∃k:Nat,k≤l.length∧i=.int .i64 k∧Below w.heap.size w wr∧Hid (∀j,j<k→nth ch (nth l j).toNat=y0)) (fun i _=>l.length - (intOf i).toNat)
    case atStart=>exact ⟨0,Nat.zero_le _,rfl,ex,Lib.hid fun j hj=>by omega⟩
    case round=>
      clear ex R0 l0
      obtain ⟨k,hk,rfl,hb,HJ⟩:=hrel
      have cl0:=(H3.out.ext hb).cellN hl0
      rw[HZ0.out]at cl0
      have cc0:=(H1.out.ext hb).cellN hz0l
      rw[←HY0.out]at cc0
      have hbk0:=World.block_lt_of_cell? _ _ cl0
      have hbk1:=World.block_lt_of_cell? _ _ cc0
      by_cases hlt:k<l.length
      case neg=>
        have RR:Hid (r=y0):=Lib.hid (by
          rw[HR.out,if_pos]
          intro x hx
          obtain ⟨j,hj,rfl⟩:=List.getElem_of_mem hx
          have:=HJ.out j (by omega)
          rwa [nth_eq hj]at this)
        go_wp2
        go_ret
        exact .mk hb (int_eq RR.out.symm)
      obtain ⟨z,hz,hzl⟩:=HL.out (nth l k) (nth_mem hlt)
      have q1:=H3.out.idx hlt
      have q3:=H1.out.idx hzl
      have clk:=(H3.out.ext hb).cellN hlt
      rw[hz]at clk
      have cck:=(H1.out.ext hb).cellN hzl
      have hbk2:=World.block_lt_of_cell? _ _ clk
      have hbk3:=World.block_lt_of_cell? _ _ cck
      obtain ⟨y,hy⟩:∃y,y=nth ch z:=⟨_,rfl⟩
      rw[←hy]at cck
      have HYY:=Lib.hid (And.intro hz hy)
      clear hz hy
      by_cases hyy:y=y0
      · have d1:(y !=y0)=false:=by simp[hyy]
        have HX:Hid (∀j,j<k+1→nth ch (nth l j).toNat=y0):=Lib.hid fun j hj=>by
          by_cases e:j=k
          · rw[e,HYY.out.1,Int.toNat_natCast,←HYY.out.2,hyy]
          · exact HJ.out j (by omega)
        clear hyy
        go_wp2
        go_quiet (fail)
        go_wp2
        go_roundw
        case rel=>exact ⟨k+1,by omega,by go_num,ext_trans hb (drewN_below _ _ _),HX⟩
        case measure=>simp[intOf];omega
      · have d1:(y !=y0)=true:=by simp[hyy]
        have RR:Hid (r= -1):=Lib.hid (by
          rw[HR.out,if_neg]
          intro hall
          have:=hall (nth l k) (nth_mem hlt)
          rw[HYY.out.1,Int.toNat_natCast,←HYY.out.2]at this
          exact hyy this)
        clear hyy
        go_wp2
        go_quiet (fail)
        go_wp2
        go_ret
        exact .mk (ext_trans hb (drewN_below _ _ _)) (int_eq RR.out.symm)
end Go.Proofs.YtcopehiceihdaaaGreat
namespace Go.Proofs.YtcopehiceihdaaaGreat
open Go.RowKit
attribute [local go_sem ↓] Go.wp_at_zero Go.wp_at_succ
def RuleV (S:Nat→Prop) (w:World) (v:Value) (l:List Int):Prop:=∃u,v=.agg #[u]∧Ints S w u l
theorem RuleV.ext {S:Nat→Prop} {w w':World} {v:Value} {l:List Int} (h:RuleV S w v l) (hw:Below w.heap.size w w'):RuleV S w' v l:=by
  obtain ⟨u,rfl,hu⟩:=h
  exact ⟨u,rfl,hu.ext hw⟩
theorem RuleV.mono {S S':Nat→Prop} {w:World} {v:Value} {l:List Int} (h:RuleV S w v l) (hS:∀b,S b→S' b):RuleV S' w v l:=by
  obtain ⟨u,rfl,hu⟩:=h
  exact ⟨u,rfl,hu.mono hS⟩
theorem row_under {W W':World} {g base:Nat} {xs:List Value} {e:TypeId} (R:Row W g e xs) (hg:g<base) (h:Below base W W'):Row W' g e xs:=R.agree (S:=fun b=>b=g) (.of_below h fun b hb _=>by omega) rfl
theorem one_cell (w:World) (x:Int):∀j,j<1 * 1→(w.alloc (.cells #[.int .i64 x] 3)).cell? (adr (some ⟨w.heap.size,0,none⟩) j)=some ([Value.int .i64 x].getD j undef):=fun j hj=>by
  obtain rfl:j=0:=by omega
  exact (row_new w [.int .i64 x] 3).cell (j:=0) rfl
theorem earlyTo_prefix (T:List (List Int)) (D ch:List Int) {k:Nat}:∀{m:Nat},k≤m→earlyTo T D ch k<+:earlyTo T D ch m:=by
  intro m
  induction m with
  | zero => intro h; obtain rfl : k = 0 := by omega
            exact List.prefix_rfl
  | succ m ih=>
    intro h
    by_cases e:k≤m
    · exact (ih e).trans (List.prefix_append _ _)
    · obtain rfl:k=m+1:=by omega
      exact List.prefix_rfl
theorem rsoonestBy_calls {S S1 S2:Nat→Prop} {w:World} {v vl vch:Value} {s:SysF} {N K:Nat} {D ch:List Int} (h:SysV S w v s) (hT:TabOK N K s.tab) (h1:Lists S1 w vl (latersL s.tab D s.tab.length)) (h2:Ints S2 w vch ch) (hD:∀x∈D,∃z:Nat,x=z∧z<ch.length) (hl:s.tab.length≤100000) (hwf:∀x∈earlyTo s.tab D ch s.tab.length,WF x):
    Calls Tryz.prog 84 #[v,vl,vch] w (Post w fun w' r=>RuleV (fun b=>w.heap.size≤b) w' r (earlyTo s.tab D ch s.tab.length)):=by
  have H0:=Lib.hid h
  obtain ⟨vc,vs,vt,vx,rfl,hc,hs,ht,hx⟩:=h
  obtain ⟨ca,cc,rfl,_⟩:=hc.form
  obtain ⟨sa,sc,rfl,_⟩:=hs.form
  obtain ⟨ta,tc,rfl,_⟩:=ht.form
  obtain ⟨xa,xc,rfl,_⟩:=hx.form
  obtain ⟨la,lc,rfl,lad,_⟩:=h1.form
  obtain ⟨a2,c2,rfl,_⟩:=h2.form
  have H1:=Lib.hid h1
  have H2:=Lib.hid h2
  have HTT:=Lib.hid hT
  have HDD:=Lib.hid hD
  obtain ⟨i0,hi,_,hz1,_⟩:=info_parts info_ints
  have QL:=Lib.hid (idx_one Tryz.underlying66 hi hz1 lad)
  have HLB:Hid (∀k,k<s.tab.length→(adr la k).block<w.heap.size):=Lib.hid fun k hk=>adr_block lad (by rw[latersL_len];exact hk)
  rw[latersL_len]at QL ⊢
  have HWF:=Lib.hid hwf
  have ex:=ext_alloc' (ext_alloc w (.cells #[.int .i64 s.p.n,.int .i64 s.p.ins,.int .i64 s.p.outs,.slice ca s.p.cs.length cc,.int .i64 s.p.an,.slice sa s.p.st.length sc,.int .i64 s.p.rounds,.int .i64 s.tn,.slice ta s.tab.length tc,.slice xa s.ex.length xc] 35)) (.cells #[.slice none 0 0] 38)
  have R0:=(row_new w [.int .i64 s.p.n,.int .i64 s.p.ins,.int .i64 s.p.outs,.slice ca s.p.cs.length cc,.int .i64 s.p.an,.slice sa s.p.st.length sc,.int .i64 s.p.rounds,.int .i64 s.tn,.slice ta s.tab.length tc,.slice xa s.ex.length xc] 35).alloc (.cells #[.slice none 0 0] 38)
  have RR:=row_new (w.alloc (.cells #[.int .i64 s.p.n,.int .i64 s.p.ins,.int .i64 s.p.outs,.slice ca s.p.cs.length cc,.int .i64 s.p.an,.slice sa s.p.st.length sc,.int .i64 s.p.rounds,.int .i64 s.tn,.slice ta s.tab.length tc,.slice xa s.ex.length xc] 35)) [.slice none 0 0] 38
  rw[World.size_alloc]at RR
  clear hc hs ht hx h1 h2 hT hD lad hi hz1 hwf
  go_enter Tryz.func84,Tryz.ntmps84
  go_wp2
  go_loopw [7,8] (fun o i wr=>∃(k:Nat) (oa:Option Addr) (oc:Nat),k≤s.tab.length∧i=.int .i64 k∧o=.slice oa k oc∧Below w.heap.size w wr∧Row wr w.heap.size 35 [.int .i64 s.p.n,.int .i64 s.p.ins,.int .i64 s.p.outs,.slice ca s.p.cs.length cc,.int .i64 s.p.an,.slice sa s.p.st.length sc,.int .i64 s.p.rounds,.int .i64 s.tn,.slice ta s.tab.length tc,.slice xa s.ex.length xc]∧Row wr (w.heap.size+1) 38 [.slice none 0 0]∧Hid (wr.ownsRow (w.heap.size+1+1) 3 1 (.slice oa k oc) k ((earlyTo s.tab D ch k).map (Value.int .i64)))) (fun _ i _=>s.tab.length - (intOf i).toNat)
  case atStart=>exact ⟨0,none,0,Nat.zero_le _,rfl,rfl,ex,R0,RR,Lib.hid (World.ownsRow_nil _ _ _ _)⟩
  case round=>
    clear ex R0 RR
    obtain ⟨k,oa,oc,hk,rfl,rfl,hb,R0,RR,HO⟩:=hrel
    have t0:=R0.cell (j:=0) rfl
    have t1:=R0.cell (j:=1) rfl
    have t2:=R0.cell (j:=2) rfl
    have t3:=R0.cell (j:=3) rfl
    have t4:=R0.cell (j:=4) rfl
    have t5:=R0.cell (j:=5) rfl
    have t6:=R0.cell (j:=6) rfl
    have t7:=R0.cell (j:=7) rfl
    have t8:=R0.cell (j:=8) rfl
    have t9:=R0.cell (j:=9) rfl
    have l0:=R0.lt
    have l1:=RR.lt
    by_cases hlt:k<s.tab.length
    case neg=>
      obtain rfl:k=s.tab.length:=by omega
      have HI:=Lib.hid (Ints.of_own HO.out HWF.out)
      have r0:=RR.cell (j:=0) rfl
      have f0:=RR.free 0
      have hb2:=hb.setCell (p:=⟨w.heap.size+1,0,none⟩) (by simp) (.slice oa s.tab.length oc)
      have HI2:=Lib.hid ((HI.out.agree (.of_grown (grownBy_setCell wr (w.heap.size+1) 0 (.slice oa s.tab.length oc)) fun b hb' e=>by cases e;omega)).mono (S':=fun b=>w.heap.size≤b) fun b hb=>by omega)
      have q0:(wr.setCell ⟨w.heap.size+1,0,none⟩ (.slice oa s.tab.length oc)).cell? ⟨w.heap.size+1,0,none⟩=some (.slice oa s.tab.length oc):=(RR.set 0 _).cell (j:=0) rfl
      go_wp2
      refine bodyPost_ret (v:=.agg #[.slice oa s.tab.length oc]) (by simp[results,Tryz.results84,go_sem,q0]) rfl ?_
      exact .mk hb2 ⟨_,rfl,HI2.out⟩
    have q1:=QL.out k hlt
    have hlt':k<(latersL s.tab D s.tab.length).length:=by rw[latersL_len];exact hlt
    obtain ⟨u,cu,iu⟩:=H1.out.at hb hlt'
    rw[latersL_at _ _ hlt]at iu
    have bu:=World.block_lt_of_cell? _ _ cu
    obtain ⟨da,dc,rfl,_⟩:=iu.form
    have HI2:Hid (Ints (fun b=>w.heap.size≤b) wr (.slice oa k oc) (earlyTo s.tab D ch k)):=Lib.hid ((Ints.of_own HO.out fun x hx=>HWF.out x ((earlyTo_prefix s.tab D ch hk).subset hx)).mono fun b hb=>by omega)
    have KV:Hid (∀W,Below wr.heap.size wr W→Calls Tryz.prog 119 #[.agg #[.int .i64 s.p.n,.int .i64 s.p.ins,.int .i64 s.p.outs,.slice ca s.p.cs.length cc,.int .i64 s.p.an,.slice sa s.p.st.length sc,.int .i64 s.p.rounds,.int .i64 s.tn,.slice ta s.tab.length tc,.slice xa s.ex.length xc],.slice a2 ch.length c2,.slice oa k oc,.slice da (laterL s.tab D k).length dc,.int .i64 k] W (Post W fun _ r=>r=.int .i64 (valueL s.tab ch (earlyTo s.tab D ch k) (laterL s.tab D k) k))):=Lib.hid fun W hW=>rvalue_calls k ((H0.out.ext hb).ext hW) HTT.out hlt ((H2.out.ext hb).ext hW) (HI2.out.ext hW) (iu.ext hW) (earlyTo_len _ _ _ _) fun x hx=>HDD.out x (List.mem_filter.1 hx).1
    have HP:Hid (earlyTo s.tab D ch (k+1)=earlyTo s.tab D ch k++[valueL s.tab ch (earlyTo s.tab D ch k) (laterL s.tab D k) k]):=Lib.hid rfl
    obtain ⟨x,hx⟩:∃x,x=valueL s.tab ch (earlyTo s.tab D ch k) (laterL s.tab D k) k:=⟨_,rfl⟩
    rw[←hx]at KV HP
    obtain ⟨d,hd⟩:∃d,d=laterL s.tab D k:=⟨_,rfl⟩
    rw[←hd]at KV cu
    have KEEP:Hid (∀w',Below wr.heap.size wr w'→(fun w':World=>w'.cell? ⟨w.heap.size,0,none⟩=some (.int .i64 s.p.n)∧w'.cell? ⟨w.heap.size,1,none⟩=some (.int .i64 s.p.ins)∧w'.cell? ⟨w.heap.size,2,none⟩=some (.int .i64 s.p.outs)∧w'.cell? ⟨w.heap.size,3,none⟩=some (.slice ca s.p.cs.length cc)∧w'.cell? ⟨w.heap.size,4,none⟩=some (.int .i64 s.p.an)∧w'.cell? ⟨w.heap.size,5,none⟩=some (.slice sa s.p.st.length sc)∧w'.cell? ⟨w.heap.size,6,none⟩=some (.int .i64 s.p.rounds)∧w'.cell? ⟨w.heap.size,7,none⟩=some (.int .i64 s.tn)∧w'.cell? ⟨w.heap.size,8,none⟩=some (.slice ta s.tab.length tc)∧w'.cell? ⟨w.heap.size,9,none⟩=some (.slice xa s.ex.length xc)∧w'.cell? (adr la k)=some (.slice da d.length dc)) w'):=Lib.hid fun w' hw=>⟨cell_ext t0 hw,cell_ext t1 hw,cell_ext t2 hw,cell_ext t3 hw,cell_ext t4 hw,cell_ext t5 hw,cell_ext t6 hw,cell_ext t7 hw,cell_ext t8 hw,cell_ext t9 hw,cell_ext cu hw⟩
    have K5:Hid (∀(w4 w5:World),Below (w.heap.size+1+1) w4 w5→(fun w':World=>w'.cell? ⟨w.heap.size,0,none⟩=some (.int .i64 s.p.n)∧w'.cell? ⟨w.heap.size,1,none⟩=some (.int .i64 s.p.ins)∧w'.cell? ⟨w.heap.size,2,none⟩=some (.int .i64 s.p.outs)∧w'.cell? ⟨w.heap.size,3,none⟩=some (.slice ca s.p.cs.length cc)∧w'.cell? ⟨w.heap.size,4,none⟩=some (.int .i64 s.p.an)∧w'.cell? ⟨w.heap.size,5,none⟩=some (.slice sa s.p.st.length sc)∧w'.cell? ⟨w.heap.size,6,none⟩=some (.int .i64 s.p.rounds)∧w'.cell? ⟨w.heap.size,7,none⟩=some (.int .i64 s.tn)∧w'.cell? ⟨w.heap.size,8,none⟩=some (.slice ta s.tab.length tc)∧w'.cell? ⟨w.heap.size,9,none⟩=some (.slice xa s.ex.length xc)∧w'.cell? (adr la k)=some (.slice da d.length dc)) w4→(fun w':World=>w'.cell? ⟨w.heap.size,0,none⟩=some (.int .i64 s.p.n)∧w'.cell? ⟨w.heap.size,1,none⟩=some (.int .i64 s.p.ins)∧w'.cell? ⟨w.heap.size,2,none⟩=some (.int .i64 s.p.outs)∧w'.cell? ⟨w.heap.size,3,none⟩=some (.slice ca s.p.cs.length cc)∧w'.cell? ⟨w.heap.size,4,none⟩=some (.int .i64 s.p.an)∧w'.cell? ⟨w.heap.size,5,none⟩=some (.slice sa s.p.st.length sc)∧w'.cell? ⟨w.heap.size,6,none⟩=some (.int .i64 s.p.rounds)∧w'.cell? ⟨w.heap.size,7,none⟩=some (.int .i64 s.tn)∧w'.cell? ⟨w.heap.size,8,none⟩=some (.slice ta s.tab.length tc)∧w'.cell? ⟨w.heap.size,9,none⟩=some (.slice xa s.ex.length xc)∧w'.cell? (adr la k)=some (.slice da d.length dc)) w5):=Lib.hid fun w4 w5 hw h4=>by
      have hA:Agree (fun b=>b<w.heap.size+1+1) w4 w5:=.of_below hw fun b hb _=>hb
      have hlb:=HLB.out k hlt
      obtain ⟨h0,h1,h2,h3,h4_,h5,h6,h7,h8,h9,h10⟩:=h4
      exact ⟨cell_agree h0 hA (by show w.heap.size<_;omega),cell_agree h1 hA (by show w.heap.size<_;omega),cell_agree h2 hA (by show w.heap.size<_;omega),cell_agree h3 hA (by show w.heap.size<_;omega),cell_agree h4_ hA (by show w.heap.size<_;omega),cell_agree h5 hA (by show w.heap.size<_;omega),cell_agree h6 hA (by show w.heap.size<_;omega),cell_agree h7 hA (by show w.heap.size<_;omega),cell_agree h8 hA (by show w.heap.size<_;omega),cell_agree h9 hA (by show w.heap.size<_;omega),cell_agree h10 hA (by omega)⟩
    have HR0:=Lib.hid R0
    have HRR:=Lib.hid RR
    clear hx hd iu hlt' R0 RR HI2
    go_wp2
    clear t0 t1 t2 t3 t4 t5 t6 t7 t8 t9 cu
    refine region_E (fun w':World=>w'.cell? ⟨w.heap.size,0,none⟩=some (.int .i64 s.p.n)∧w'.cell? ⟨w.heap.size,1,none⟩=some (.int .i64 s.p.ins)∧w'.cell? ⟨w.heap.size,2,none⟩=some (.int .i64 s.p.outs)∧w'.cell? ⟨w.heap.size,3,none⟩=some (.slice ca s.p.cs.length cc)∧w'.cell? ⟨w.heap.size,4,none⟩=some (.int .i64 s.p.an)∧w'.cell? ⟨w.heap.size,5,none⟩=some (.slice sa s.p.st.length sc)∧w'.cell? ⟨w.heap.size,6,none⟩=some (.int .i64 s.p.rounds)∧w'.cell? ⟨w.heap.size,7,none⟩=some (.int .i64 s.tn)∧w'.cell? ⟨w.heap.size,8,none⟩=some (.slice ta s.tab.length tc)∧w'.cell? ⟨w.heap.size,9,none⟩=some (.slice xa s.ex.length xc)∧w'.cell? (adr la k)=some (.slice da d.length dc)) (fun i=>false) (by kernel_rfl) ?_ (fun hHeld=>?_)
    · exact KEEP.out _ (drewN_below _ _ 1)
    refine anyE_take 0 (v:=?_) rfl (by kernel_rfl) (fun _ _ _ h=>h) (by rfl) ?hy0 hHeld ?rest0
    case hy0=>(intro w hSw;(try dsimp only at hSw);go_simp;try with_reducible rfl)
    try simp only[Act.put,zsa,zsz,zss]
    refine anyE_take 1 (v:=?_) rfl (by kernel_rfl) (fun _ _ _ h=>h) (by rfl) ?hy1 hHeld ?rest1
    case hy1=>(intro w hSw;(try dsimp only at hSw);go_simp;try with_reducible rfl)
    try simp only[Act.put,zsa,zsz,zss]
    refine anyE_take 2 (v:=?_) rfl (by kernel_rfl) (fun _ _ _ h=>h) (by rfl) ?hy2 hHeld ?rest2
    case hy2=>(intro w hSw;(try dsimp only at hSw);go_simp;try with_reducible rfl)
    try simp only[Act.put,zsa,zsz,zss]
    refine anyE_take 3 (v:=?_) rfl (by kernel_rfl) (fun _ _ _ h=>h) (by rfl) ?hy3 hHeld ?rest3
    case hy3=>(intro w hSw;(try dsimp only at hSw);go_simp;try with_reducible rfl)
    try simp only[Act.put,zsa,zsz,zss]
    refine anyE_take 4 (v:=?_) rfl (by kernel_rfl) (fun _ _ _ h=>h) (by rfl) ?hy4 hHeld ?rest4
    case hy4=>(intro w hSw;(try dsimp only at hSw);go_simp;try with_reducible rfl)
    try simp only[Act.put,zsa,zsz,zss]
    refine anyE_take 5 (v:=?_) rfl (by kernel_rfl) (fun _ _ _ h=>h) (by rfl) ?hy5 hHeld ?rest5
    case hy5=>(intro w hSw;(try dsimp only at hSw);go_simp;try with_reducible rfl)
    try simp only[Act.put,zsa,zsz,zss]
    refine anyE_take 6 (v:=?_) rfl (by kernel_rfl) (fun _ _ _ h=>h) (by rfl) ?hy6 hHeld ?rest6
    case hy6=>(intro w hSw;(try dsimp only at hSw);go_simp;try with_reducible rfl)
    try simp only[Act.put,zsa,zsz,zss]
    refine anyE_take 7 (v:=?_) rfl (by kernel_rfl) (fun _ _ _ h=>h) (by rfl) ?hy7 hHeld ?rest7
    case hy7=>(intro w hSw;(try dsimp only at hSw);go_simp;try with_reducible rfl)
    try simp only[Act.put,zsa,zsz,zss]
    refine anyE_take 8 (v:=?_) rfl (by kernel_rfl) (fun _ _ _ h=>h) (by rfl) ?hy8 hHeld ?rest8
    case hy8=>(intro w hSw;(try dsimp only at hSw);go_simp;try with_reducible rfl)
    try simp only[Act.put,zsa,zsz,zss]
    refine anyE_one 9 rfl (by kernel_rfl) (fun K hK=>?_)
    go_simp;go_at_call 119;refine (KV.out _ (drewN_below _ _ 1)).mono ?_;rintro _ w2 ⟨_,rfl,hb2,rfl⟩;have y2:=ext_trans (drewN_below _ _ 1) hb2;clear hb2
    refine hK.out _ _ (fun _=>KEEP.out _ y2) (fun hHeld=>?_);replace hHeld:=hHeld rfl
    clear hK K
    try simp only[Act.put,zsa,zsz,zss]
    refine anyE_one 10 rfl (by kernel_rfl) (fun K hK=>?_)
    go_simp
    refine hK.out _ _ (fun _=>KEEP.out _ (ext_alloc' y2 _)) (fun hHeld=>?_);replace hHeld:=hHeld rfl
    clear hK K
    try simp only[Act.put,zsa,zsz,zss]
    refine anyE_one 11 rfl (by kernel_rfl) (fun K hK=>?_)
    (refine step_appendW (w:=w2.alloc (.cells #[.int .i64 x] 3)) rfl _ _ 36 (by rfl) 3 _ 1 8 Tryz.underlying36 info_int rfl (by decide) (w.heap.size+1+1) _ k _ (by rfl) (owns_ext HO.out (ext_alloc' y2 _)) (fun _=>True) (some ⟨w2.heap.size,0,none⟩) 1 1 [.int .i64 x] (by rfl) (.inr ⟨_,0,rfl,by simp,trivial⟩) rfl (one_cell w2 x) (by simp[Value.oneCell']) (by omega) (by omega) (by have:=y2.size;simp;omega) ?_;intro v5 w5 hown5 hbel5 hag5 hat5)
    refine hK.out _ _ (fun _=>K5.out _ _ hbel5 (KEEP.out _ (ext_alloc' y2 _))) (fun hHeld=>?_);replace hHeld:=hHeld rfl
    clear hK K
    try simp only[Act.put,zsa,zsz,zss]
    refine anyE_take 12 (v:=?_) rfl (by kernel_rfl) (fun _ _ _ h=>h) (by rfl) ?hy12 hHeld ?rest12
    case hy12=>(intro w hSw;(try dsimp only at hSw);go_simp;try with_reducible rfl)
    try simp only[Act.put,zsa,zsz,zss]
    refine anyE_done (by kernel_rfl) ?_ _
    obtain ⟨ga,gc,rfl⟩:=own_form hown5
    have hb4:=ext_trans hb (ext_alloc' y2 (.cells #[.int .i64 x] 3))
    have HO5:Hid (w5.ownsRow (w.heap.size+1+1) 3 1 (.slice ga (k+1) gc) (k+1) ((earlyTo s.tab D ch (k+1)).map (Value.int .i64))):=Lib.hid (by rw[HP.out];simpa using hown5)
    have R5:=row_under (HR0.out.ext (ext_alloc' y2 (.cells #[.int .i64 x] 3))) (by omega) hbel5
    have RR5:=row_under (HRR.out.ext (ext_alloc' y2 (.cells #[.int .i64 x] 3))) (by omega) hbel5
    have hb5:=hb4.trans (hbel5.mono (show w.heap.size≤w.heap.size+1+1 by omega))
    clear hHeld KEEP K5 KV HR0 HRR hown5 hbel5 hag5 hat5 hb y2 HO hb4 bu
    go_wp2
    go_roundw
    case rel=>exact ⟨k+1,_,_,by omega,by go_num,rfl,hb5,R5,RR5,HO5⟩
    case measure=>simp[intOf];omega
theorem valueL_wf {T:List (List Int)} {ch bf l:List Int} (h1:∀x∈ch,WF x) (h2:∀x∈bf,WF x) (v:Nat):WF (valueL T ch bf l v):=by
  have hm:WF (-1):=by unfold WF;omega
  unfold valueL
  split
  · split
    · exact hm
    · exact nth_wf h2 _
  · split
    · exact nth_wf h1 _
    · exact hm
theorem earlyTo_wf {T:List (List Int)} {D ch:List Int} (h1:∀x∈ch,WF x):∀k,∀x∈earlyTo T D ch k,WF x
  | 0,x,hx=>by simp[earlyTo]at hx
  | k+1,x,hx=>by
    unfold earlyTo at hx
    rcases List.mem_append.1 hx with h | h
    · exact earlyTo_wf h1 k x h
    · rw[List.mem_singleton.1 h];exact valueL_wf h1 (earlyTo_wf h1 k) k
theorem rsoonest_calls {S S2:Nat→Prop} {w:World} {v vch:Value} {s:SysF} {N K:Nat} {ch:List Int} (h:SysV S w v s) (hg:GoodS s N K) (h2:Ints S2 w vch ch) (hl:s.tab.length≤100000) (hcl:ch.length=s.tab.length):
    Calls Tryz.prog 43 #[v,vch] w (Post w fun w' r=>RuleV (fun b=>w.heap.size≤b) w' r (earlyTo s.tab (decL s N K) ch s.tab.length)):=by
  have hwf:=earlyTo_wf (T:=s.tab) (D:=decL s N K) h2.wf s.tab.length
  have KL:Hid (∀W,Below w.heap.size w W→Calls Tryz.prog 85 #[v] W (Post W fun w' r=>Lists (fun b=>W.heap.size≤b) w' r (latersL s.tab (decL s N K) s.tab.length))):=Lib.hid fun W hW=>rlaters_calls (h.ext hW) hg hl
  have KS:Hid (∀W,Below w.heap.size w W→∀(S1:Nat→Prop) (vl:Value),Lists S1 W vl (latersL s.tab (decL s N K) s.tab.length)→Calls Tryz.prog 84 #[v,vl,vch] W (Post W fun w' r=>RuleV (fun b=>W.heap.size≤b) w' r (earlyTo s.tab (decL s N K) ch s.tab.length))):=Lib.hid fun W hW S1 vl hvl=>rsoonestBy_calls (h.ext hW) hg.tab hvl (h2.ext hW) (fun x hx=>by obtain ⟨z,h3,h4,_⟩:=passL_mem.1 hx;exact ⟨z,h3,by omega⟩) hl hwf
  obtain ⟨vc,vs,vt,vx,rfl,hc,hs,ht,hx⟩:=h
  obtain ⟨ca,cc,rfl,_⟩:=hc.form
  obtain ⟨sa,sc,rfl,_⟩:=hs.form
  obtain ⟨ta,tc,rfl,_⟩:=ht.form
  obtain ⟨xa,xc,rfl,_⟩:=hx.form
  obtain ⟨a2,c2,rfl,_⟩:=h2.form
  obtain ⟨E,hE⟩:∃E,E=earlyTo s.tab (decL s N K) ch s.tab.length:=⟨_,rfl⟩
  obtain ⟨LL,hLL⟩:∃E,E=latersL s.tab (decL s N K) s.tab.length:=⟨_,rfl⟩
  rw[←hE]at KS ⊢
  rw[←hLL]at KL KS
  have ex:=ext_alloc' (ext_alloc w (.cells #[.int .i64 s.p.n,.int .i64 s.p.ins,.int .i64 s.p.outs,.slice ca s.p.cs.length cc,.int .i64 s.p.an,.slice sa s.p.st.length sc,.int .i64 s.p.rounds,.int .i64 s.tn,.slice ta s.tab.length tc,.slice xa s.ex.length xc] 35)) (.cells #[.slice none 0 0] 38)
  have R0:=(row_new w [.int .i64 s.p.n,.int .i64 s.p.ins,.int .i64 s.p.outs,.slice ca s.p.cs.length cc,.int .i64 s.p.an,.slice sa s.p.st.length sc,.int .i64 s.p.rounds,.int .i64 s.tn,.slice ta s.tab.length tc,.slice xa s.ex.length xc] 35).alloc (.cells #[.slice none 0 0] 38)
  have RR:=row_new (w.alloc (.cells #[.int .i64 s.p.n,.int .i64 s.p.ins,.int .i64 s.p.outs,.slice ca s.p.cs.length cc,.int .i64 s.p.an,.slice sa s.p.st.length sc,.int .i64 s.p.rounds,.int .i64 s.tn,.slice ta s.tab.length tc,.slice xa s.ex.length xc] 35)) [.slice none 0 0] 38
  rw[World.size_alloc]at RR
  clear hc hs ht hx h2 hg hwf hE hLL hcl
  go_enter Tryz.func43,Tryz.ntmps43
  go_wp2
  obtain ⟨w1,hw1⟩:∃w1,w1=(w.alloc (.cells #[.int .i64 s.p.n,.int .i64 s.p.ins,.int .i64 s.p.outs,.slice ca s.p.cs.length cc,.int .i64 s.p.an,.slice sa s.p.st.length sc,.int .i64 s.p.rounds,.int .i64 s.tn,.slice ta s.tab.length tc,.slice xa s.ex.length xc] 35)).alloc (.cells #[.slice none 0 0] 38):=⟨_,rfl⟩
  rw[←hw1]at ex R0 RR ⊢
  replace KL:Hid (∀W,Below w1.heap.size w1 W→_):=Lib.hid fun W hW=>KL.out W (ext_trans ex hW)
  replace KS:Hid (∀W,Below w1.heap.size w1 W→_):=Lib.hid fun W hW=>KS.out W (ext_trans ex hW)
  have t0:=R0.cell (j:=0) rfl
  have t1:=R0.cell (j:=1) rfl
  have t2:=R0.cell (j:=2) rfl
  have t3:=R0.cell (j:=3) rfl
  have t4:=R0.cell (j:=4) rfl
  have t5:=R0.cell (j:=5) rfl
  have t6:=R0.cell (j:=6) rfl
  have t7:=R0.cell (j:=7) rfl
  have t8:=R0.cell (j:=8) rfl
  have t9:=R0.cell (j:=9) rfl
  have l0:=R0.lt
  have KEEP:Hid (∀w',Below w1.heap.size w1 w'→(fun w':World=>w'.cell? ⟨w.heap.size,0,none⟩=some (.int .i64 s.p.n)∧w'.cell? ⟨w.heap.size,1,none⟩=some (.int .i64 s.p.ins)∧w'.cell? ⟨w.heap.size,2,none⟩=some (.int .i64 s.p.outs)∧w'.cell? ⟨w.heap.size,3,none⟩=some (.slice ca s.p.cs.length cc)∧w'.cell? ⟨w.heap.size,4,none⟩=some (.int .i64 s.p.an)∧w'.cell? ⟨w.heap.size,5,none⟩=some (.slice sa s.p.st.length sc)∧w'.cell? ⟨w.heap.size,6,none⟩=some (.int .i64 s.p.rounds)∧w'.cell? ⟨w.heap.size,7,none⟩=some (.int .i64 s.tn)∧w'.cell? ⟨w.heap.size,8,none⟩=some (.slice ta s.tab.length tc)∧w'.cell? ⟨w.heap.size,9,none⟩=some (.slice xa s.ex.length xc)) w'):=Lib.hid fun w' hw=>⟨cell_ext t0 hw,cell_ext t1 hw,cell_ext t2 hw,cell_ext t3 hw,cell_ext t4 hw,cell_ext t5 hw,cell_ext t6 hw,cell_ext t7 hw,cell_ext t8 hw,cell_ext t9 hw⟩
  have HRR:=Lib.hid RR
  clear hw1 t0 t1 t2 t3 t4 t5 t6 t7 t8 t9 R0 RR
  refine region_E (fun w':World=>w'.cell? ⟨w.heap.size,0,none⟩=some (.int .i64 s.p.n)∧w'.cell? ⟨w.heap.size,1,none⟩=some (.int .i64 s.p.ins)∧w'.cell? ⟨w.heap.size,2,none⟩=some (.int .i64 s.p.outs)∧w'.cell? ⟨w.heap.size,3,none⟩=some (.slice ca s.p.cs.length cc)∧w'.cell? ⟨w.heap.size,4,none⟩=some (.int .i64 s.p.an)∧w'.cell? ⟨w.heap.size,5,none⟩=some (.slice sa s.p.st.length sc)∧w'.cell? ⟨w.heap.size,6,none⟩=some (.int .i64 s.p.rounds)∧w'.cell? ⟨w.heap.size,7,none⟩=some (.int .i64 s.tn)∧w'.cell? ⟨w.heap.size,8,none⟩=some (.slice ta s.tab.length tc)∧w'.cell? ⟨w.heap.size,9,none⟩=some (.slice xa s.ex.length xc)) (fun i=>i==5) (by kernel_rfl) ?_ (fun hHeld=>?_)
  · exact KEEP.out _ (drewN_below _ _ 1)
  refine anyE_take 0 (v:=?_) rfl (by kernel_rfl) (fun _ _ _ h=>h) (by rfl) ?hy0 hHeld ?rest0
  case hy0=>(intro w hSw;(try dsimp only at hSw);go_simp;try with_reducible rfl)
  try simp only[Act.put,zsa,zsz,zss]
  refine anyE_take 1 (v:=?_) rfl (by kernel_rfl) (fun _ _ _ h=>h) (by rfl) ?hy1 hHeld ?rest1
  case hy1=>(intro w hSw;(try dsimp only at hSw);go_simp;try with_reducible rfl)
  try simp only[Act.put,zsa,zsz,zss]
  refine anyE_take 3 (v:=?_) rfl (by kernel_rfl) (fun _ _ _ h=>h) (by rfl) ?hy3 hHeld ?rest3
  case hy3=>(intro w hSw;(try dsimp only at hSw);go_simp;try with_reducible rfl)
  try simp only[Act.put,zsa,zsz,zss]
  refine anyE_one 2 rfl (by kernel_rfl) (fun K hK=>?_)
  go_simp;go_at_call 85;refine (KL.out _ (drewN_below _ _ 1)).mono ?_;rintro _ w2 ⟨vl,rfl,hb2,hvl⟩;have y2:=ext_trans (drewN_below _ _ 1) hb2;have HVL:=Lib.hid hvl;clear hb2 hvl
  refine hK.out _ _ (fun _=>KEEP.out _ y2) (fun hHeld=>?_);replace hHeld:=hHeld rfl
  clear hK K
  try simp only[Act.put,zsa,zsz,zss]
  refine anyE_one 4 rfl (by kernel_rfl) (fun K hK=>?_)
  go_simp;go_at_call 84;refine (KS.out _ y2 _ _ HVL.out).mono ?_;rintro _ w3 ⟨vr,rfl,hb3,vu,rfl,hvu⟩;have y3:=ext_trans y2 hb3;obtain ⟨ua,uc,rfl,_⟩:=hvu.form;have HVU:=Lib.hid hvu;have c0:=(HRR.out.ext y3).cell (j:=0) rfl;have f0:=(HRR.out.ext y3).free 0;have l3:=(HRR.out.ext y3).lt;clear hb3 hvu
  refine hK.out _ _ (fun _=>KEEP.out _ y3) (fun hHeld=>?_);replace hHeld:=hHeld rfl
  clear hK K
  try simp only[Act.put,zsa,zsz,zss]
  refine anyE_one 5 rfl (by kernel_rfl) (fun K hK=>?_)
  go_simp
  refine hK.out _ _ (fun h=>by simp at h) (fun hHeld=>?_)
  clear hK K
  try simp only[Act.put,zsa,zsz,zss]
  refine anyE_done (by kernel_rfl) ?_ _
  have hb3:=(ext_trans ex y3).setCell (p:=⟨w.heap.size+1,0,none⟩) (by simp) (.slice ua E.length uc)
  have hl1:=HRR.out.lt
  have hsz:=y2.size
  have HI2:=Lib.hid ((HVU.out.agree (.of_grown (grownBy_setCell w3 (w.heap.size+1) 0 (.slice ua E.length uc)) fun b hb' e=>by cases e;omega)).mono (S':=fun b=>w.heap.size≤b) fun b hb=>by omega)
  have q0:(w3.setCell ⟨w.heap.size+1,0,none⟩ (.slice ua E.length uc)).cell? ⟨w.heap.size+1,0,none⟩=some (.slice ua E.length uc):=((HRR.out.ext y3).set 0 _).cell (j:=0) rfl
  clear KL KS KEEP
  go_wp2
  refine bodyPost_ret (v:=.agg #[.slice ua E.length uc]) (by simp[results,Tryz.results43,go_sem,q0]) rfl ?_
  exact .mk hb3 ⟨_,rfl,HI2.out⟩
end Go.Proofs.YtcopehiceihdaaaGreat
