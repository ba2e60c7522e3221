/- Part of the proof that the laws of chapter 45 answer true for every input. -/
import Derived.Test.YtcopehiceihdaaaGreatPCh41
set_option linter.unusedSimpArgs false
set_option linter.unnecessarySimpa false
set_option linter.unusedVariables false
set_option maxRecDepth 100000
set_option maxHeartbeats 40000000
namespace Go.Proofs.YtcopehiceihdaaaGreat
open Go.RowKit
attribute [local go_sem ↓] Go.wp_at_zero Go.wp_at_succ
def outRow (E:List Int) (n:Nat):List Value:=(E++List.replicate (n - E.length) 0).map (Value.int .i64)
theorem outRow_nil (n:Nat):outRow [] n=List.replicate n (.int .i64 0):=by simp[outRow]
theorem outRow_get {E:List Int} {n k:Nat} (h:k<E.length):(outRow E n)[k]? =some (.int .i64 (nth E k)):=by
  unfold outRow
  rw[List.getElem?_map,List.getElem?_append_left h,get?_nth h];rfl
theorem outRow_mid {E:List Int} {n k:Nat} (hk:E.length=k) (h:k<n):(outRow E n)[k]? =some (.int .i64 0):=by
  unfold outRow
  rw[List.getElem?_map,List.getElem?_append_right (by omega),hk,Nat.sub_self,List.getElem?_replicate,if_pos (by omega)];rfl
theorem outRow_set {E:List Int} {n k:Nat} (hk:E.length=k) (h:k<n) (x:Int):(outRow E n).set k (.int .i64 x)=outRow (E++[x]) n:=by
  unfold outRow
  rw[←List.map_set,List.set_append_right _ _ (by omega),hk,Nat.sub_self,List.append_assoc]
  congr 2
  have:n - k=(n - (k+1))+1:=by omega
  rw[this,List.replicate_succ,zsz,List.length_append,hk];rfl
theorem outRow_full {E:List Int} {n:Nat} (h:E.length=n):outRow E n=E.map (Value.int .i64):=by simp[outRow,h]
theorem chkV_pos {ch:List Int} {outs x:Int} (h:chkV ch outs x=0):0≤nth ch x.toNat:=by
  unfold chkV at h
  split at h
  · omega
  · split at h
    · omega
    · omega
theorem earlyTo_succ (T:List (List Int)) (D ch:List Int) (k:Nat):earlyTo T D ch (k+1)=earlyTo T D ch k++[valueL T ch (earlyTo T D ch k) (laterL T D k) k]:=rfl
theorem pearly_calls {S S2:Nat→Prop} {w:World} {v vch:Value} {s:SysF} {ch:List Int} (h:SysV S w v s) (hf:PFew s.p) (h2:Ints S2 w vch ch) (hl:s.tab.length≤100000):
    Calls Tryz.prog 14 #[v,.agg #[vch]] w (Post w (EarlyR w.heap.size s ch)):=by
  have KR:Hid (∀W,Below w.heap.size w W→Calls Tryz.prog 25 #[v] W (Post W (RelR W.heap.size s))):=Lib.hid fun W hW=>pRelevant_calls (h.ext hW) hf hl
  have HG:Hid (verE s=0→GoodS s s.N s.K):=Lib.hid fun h0=>good_sys h0 h.moves8
  obtain ⟨vc,vs,vt,vx,rfl,hc,hs,ht,hx⟩:=h
  obtain ⟨ca,cc,rfl,_⟩:=hc.form
  obtain ⟨sa,sc,rfl,_⟩:=hs.form
  obtain ⟨ta,tc,rfl,_⟩:=ht.form
  obtain ⟨xa,xc,rfl,_⟩:=hx.form
  obtain ⟨a2,c2,rfl,_⟩:=h2.form
  have H2:=Lib.hid h2
  have ex:=ext_alloc' (ext_alloc' (ext_alloc w (.cells #[.int .i64 s.p.n,.int .i64 s.p.ins,.int .i64 s.p.outs,.slice ca s.p.cs.length cc,.int .i64 s.p.an,.slice sa s.p.st.length sc,.int .i64 s.p.rounds,.int .i64 s.tn,.slice ta s.tab.length tc,.slice xa s.ex.length xc] 35)) (.cells #[.slice a2 ch.length c2] 38)) (.cells #[.slice none 0 0] 38)
  have R0:=((row_new w [.int .i64 s.p.n,.int .i64 s.p.ins,.int .i64 s.p.outs,.slice ca s.p.cs.length cc,.int .i64 s.p.an,.slice sa s.p.st.length sc,.int .i64 s.p.rounds,.int .i64 s.tn,.slice ta s.tab.length tc,.slice xa s.ex.length xc] 35).alloc (.cells #[.slice a2 ch.length c2] 38)).alloc (.cells #[.slice none 0 0] 38)
  have R1:=(row_new (w.alloc (.cells #[.int .i64 s.p.n,.int .i64 s.p.ins,.int .i64 s.p.outs,.slice ca s.p.cs.length cc,.int .i64 s.p.an,.slice sa s.p.st.length sc,.int .i64 s.p.rounds,.int .i64 s.tn,.slice ta s.tab.length tc,.slice xa s.ex.length xc] 35)) [.slice a2 ch.length c2] 38).alloc (.cells #[.slice none 0 0] 38)
  have RR:=row_new ((w.alloc (.cells #[.int .i64 s.p.n,.int .i64 s.p.ins,.int .i64 s.p.outs,.slice ca s.p.cs.length cc,.int .i64 s.p.an,.slice sa s.p.st.length sc,.int .i64 s.p.rounds,.int .i64 s.tn,.slice ta s.tab.length tc,.slice xa s.ex.length xc] 35)).alloc (.cells #[.slice a2 ch.length c2] 38)) [.slice none 0 0] 38
  simp only[World.size_alloc]at R1 RR
  have t0:=R0.cell (j:=0) rfl
  have t1:=R0.cell (j:=1) rfl
  have t2:=R0.cell (j:=2) rfl
  have t3:=R0.cell (j:=3) rfl
  have t4:=R0.cell (j:=4) rfl
  have t5:=R0.cell (j:=5) rfl
  have t6:=R0.cell (j:=6) rfl
  have t7:=R0.cell (j:=7) rfl
  have t8:=R0.cell (j:=8) rfl
  have t9:=R0.cell (j:=9) rfl
  have l0:=R0.lt
  have HT:=Lib.hid ht.block
  clear hc hs ht hx h2
  go_enter Tryz.func14,Tryz.ntmps14
  go_wp2_with fail
  refine (KR.out _ ex).mono ?_
  rintro _ w1 ⟨_,rfl,hb1,hrel⟩
  have hs0:=ex.size
  replace R0:=R0.ext hb1
  replace R1:=R1.ext hb1
  replace RR:=RR.ext hb1
  replace ex:=ext_trans ex hb1
  clear t0 t1 t2 t3 t4 t5 t6 t7 t8 t9 l0 hb1 KR
  have lR:=RR.lt
  have hwR:=RR.lt
  rcases hrel with ⟨hv0,u,rfl,hu⟩ | ⟨hv0,rfl⟩
  case inr=>
    have RE:Hid (earE s ch=verE s∧verE s≠0):=Lib.hid ⟨by unfold earE;rw[if_neg hv0],hv0⟩
    obtain ⟨ve,hve⟩:∃x,x=verE s:=⟨_,rfl⟩
    rw[←hve]at RE hv0 ⊢
    have d0:(ve !=0)=true:=by simp[hv0]
    clear hv0 hve
    have c0:=RR.cell (j:=0) rfl
    have f0:=RR.free 0
    have q0:(w1.setCell ⟨w.heap.size+1+1,0,none⟩ (.slice none 0 0)).cell? ⟨w.heap.size+1+1,0,none⟩=some (.slice none 0 0):=(RR.set 0 _).cell (j:=0) rfl
    have hfin:=Lib.hid (earlyR_err (B:=w.heap.size) (w':=w1.setCell ⟨w.heap.size+1+1,0,none⟩ (.slice none 0 0)) RE.out.1 RE.out.2)
    have hexf:=Lib.hid (ex.setCell (p:=⟨w.heap.size+1+1,0,none⟩) (by simp;omega) (.slice none 0 0))
    go_wp2
    refine bodyPost_ret (v:=.tuple #[.agg #[.slice none 0 0],.int .i64 (ve)]) (by simp[results,Tryz.results14,go_sem,q0]) rfl ?_
    exact .mk hexf.out hfin.out
  have HV0:=Lib.hid hv0
  have hg:=HG.out hv0
  obtain ⟨ua,uc,rfl,_⟩:=hu.form
  have d0:((0:Int) !=0)=false:=rfl
  have t8:=R0.cell (j:=8) rfl
  have r1:=R1.cell (j:=0) rfl
  clear hv0
  by_cases hlen:ch.length=s.tab.length
  case neg=>
    have RE:Hid (earE s ch=15∧(15:Int)≠0):=Lib.hid ⟨by unfold earE;rw[if_pos HV0.out,if_neg hlen],by decide⟩
    have d1:((ch.length:Int) !=(s.tab.length:Int))=true:=by rw[bne_iff_ne];omega
    have hU:=Lib.hid hu
    have HGG:=Lib.hid hg
    clear hlen hu hg
    have c0:=RR.cell (j:=0) rfl
    have f0:=RR.free 0
    have q0:(w1.setCell ⟨w.heap.size+1+1,0,none⟩ (.slice none 0 0)).cell? ⟨w.heap.size+1+1,0,none⟩=some (.slice none 0 0):=(RR.set 0 _).cell (j:=0) rfl
    have hfin:=Lib.hid (earlyR_err (B:=w.heap.size) (w':=w1.setCell ⟨w.heap.size+1+1,0,none⟩ (.slice none 0 0)) RE.out.1 RE.out.2)
    have hexf:=Lib.hid (ex.setCell (p:=⟨w.heap.size+1+1,0,none⟩) (by simp;omega) (.slice none 0 0))
    go_wp2
    refine bodyPost_ret (v:=.tuple #[.agg #[.slice none 0 0],.int .i64 (15)]) (by simp[results,Tryz.results14,go_sem,q0]) rfl ?_
    exact .mk hexf.out hfin.out
  have d1:((ch.length:Int) !=(s.tab.length:Int))=false:=by rw[hlen];simp
  have HEA:Hid (earE s ch=firstE (fun i=>chkV ch s.p.outs (nth (decL s s.N s.K) i)) (decL s s.N s.K).length):=Lib.hid (by unfold earE;rw[if_pos HV0.out,if_pos hlen])
  have HDN:Hid (∀x∈decL s s.N s.K,∃z:Nat,x=z∧z<ch.length):=Lib.hid fun x hx=>by rw[hlen];exact decL_nat hx
  have hdl:(decL s s.N s.K).length≤s.tab.length:=passL_len _ _
  have HER:Hid (∀w' v,earE s ch=0→RuleV (fun b=>w.heap.size≤b) w' v (earlyTo s.tab (decL s s.N s.K) ch s.tab.length)→EarlyR w.heap.size s ch w' (.tuple #[v,.int .i64 0])):=Lib.hid fun w' v h0 h1=>.inl ⟨h0,v,rfl,h1⟩
  obtain ⟨D,hD⟩:∃D,D=decL s s.N s.K:=⟨_,rfl⟩
  rw[←hD]at HEA HDN hdl HER hu ⊢
  have HU:=Lib.hid hu
  have HTB:=Lib.hid hg.tab
  have HK6:=Lib.hid hg.K6
  have HLEN:=Lib.hid hlen
  have hmm:=@run_makeMap Tryz.prog
  have hws:=ex.size
  have HCW:=Lib.hid H2.out.wf
  clear hD hg hu hlen
  go_wp2_with fail
  clear t8 r1 d0 d1 hmm
  have RC:Row (((w1.alloc (.map #[] 0)).alloc (.cells #[.map (some w1.heap.size)] 95)).alloc (.cells #[.func (.func 39) #[] #[.pointer (some ⟨w1.heap.size+1,0,none⟩),.pointer (some ⟨w1.heap.size+1+1,0,none⟩),.pointer (some ⟨w.heap.size,0,none⟩)]] 96)) (w1.heap.size+1) 95 [.map (some w1.heap.size)]:=by
    have:=(row_new (w1.alloc (.map #[] 0)) [.map (some w1.heap.size)] 95).alloc (.cells #[.func (.func 39) #[] #[.pointer (some ⟨w1.heap.size+1,0,none⟩),.pointer (some ⟨w1.heap.size+1+1,0,none⟩),.pointer (some ⟨w.heap.size,0,none⟩)]] 96)
    rwa [World.size_alloc]at this
  have RF:Row (((w1.alloc (.map #[] 0)).alloc (.cells #[.map (some w1.heap.size)] 95)).alloc (.cells #[.func (.func 39) #[] #[.pointer (some ⟨w1.heap.size+1,0,none⟩),.pointer (some ⟨w1.heap.size+1+1,0,none⟩),.pointer (some ⟨w.heap.size,0,none⟩)]] 96)) (w1.heap.size+1+1) 96 [.func (.func 39) #[] #[.pointer (some ⟨w1.heap.size+1,0,none⟩),.pointer (some ⟨w1.heap.size+1+1,0,none⟩),.pointer (some ⟨w.heap.size,0,none⟩)]]:=by
    have:=row_new ((w1.alloc (.map #[] 0)).alloc (.cells #[.map (some w1.heap.size)] 95)) [.func (.func 39) #[] #[.pointer (some ⟨w1.heap.size+1,0,none⟩),.pointer (some ⟨w1.heap.size+1+1,0,none⟩),.pointer (some ⟨w.heap.size,0,none⟩)]] 96
    simpa only[World.size_alloc] using this
  have hx3:Below w1.heap.size w1 (((w1.alloc (.map #[] 0)).alloc (.cells #[.map (some w1.heap.size)] 95)).alloc (.cells #[.func (.func 39) #[] #[.pointer (some ⟨w1.heap.size+1,0,none⟩),.pointer (some ⟨w1.heap.size+1+1,0,none⟩),.pointer (some ⟨w.heap.size,0,none⟩)]] 96)):=ext_alloc' (ext_alloc' (ext_alloc w1 (.map #[] 0)) (.cells #[.map (some w1.heap.size)] 95)) (.cells #[.func (.func 39) #[] #[.pointer (some ⟨w1.heap.size+1,0,none⟩),.pointer (some ⟨w1.heap.size+1+1,0,none⟩),.pointer (some ⟨w.heap.size,0,none⟩)]] 96)
  have HM0:Hid (MapV keyN (((w1.alloc (.map #[] 0)).alloc (.cells #[.map (some w1.heap.size)] 95)).alloc (.cells #[.func (.func 39) #[] #[.pointer (some ⟨w1.heap.size+1,0,none⟩),.pointer (some ⟨w1.heap.size+1+1,0,none⟩),.pointer (some ⟨w.heap.size,0,none⟩)]] 96)) w1.heap.size (mapI (comTo s.tab ch (D.take 0))) 0):=Lib.hid (by
    have e:mapI (comTo s.tab ch (D.take 0))=fun _=>none:=by rw[List.take_zero];rfl
    rw[e]
    exact ((MapV.made keyN w1).alloc _).alloc _)
  obtain ⟨w2,hw2⟩:∃w2,w2=(((w1.alloc (.map #[] 0)).alloc (.cells #[.map (some w1.heap.size)] 95)).alloc (.cells #[.func (.func 39) #[] #[.pointer (some ⟨w1.heap.size+1,0,none⟩),.pointer (some ⟨w1.heap.size+1+1,0,none⟩),.pointer (some ⟨w.heap.size,0,none⟩)]] 96)):=⟨_,rfl⟩
  rw[←hw2]at RC RF hx3 HM0 ⊢
  clear hw2
  replace R0:=R0.ext hx3
  replace R1:=R1.ext hx3
  replace RR:=RR.ext hx3
  have HE2:=Lib.hid (ext_trans ex hx3)
  have HFS:Hid (FolS (fun b=>S b∧b<w.heap.size) (w1.heap.size+1) (w1.heap.size+1+1) w.heap.size w1.heap.size s.tn ta tc s.tab w2 (comTo s.tab ch (D.take 0)) 0):=Lib.hid ⟨RC.cell (j:=0) rfl,RF.cell (j:=0) rfl,R0.cell (j:=7) rfl,R0.cell (j:=8) rfl,HM0.out,HT.out.ext HE2.out,fun b hb=>by have:=hb.2;omega,by omega,by omega,by omega⟩
  have hb2:=HE2.out
  clear RC RF HM0 HE2
  go_loopw [11,12,40,53,57] (fun _ _ i _ _ wr=>∃k n:Nat,k≤D.length∧i=.int .i64 k∧n≤k * 7∧Below w.heap.size w wr∧Below w1.heap.size w1 wr∧Row wr w.heap.size 35 [.int .i64 s.p.n,.int .i64 s.p.ins,.int .i64 s.p.outs,.slice ca s.p.cs.length cc,.int .i64 s.p.an,.slice sa s.p.st.length sc,.int .i64 s.p.rounds,.int .i64 s.tn,.slice ta s.tab.length tc,.slice xa s.ex.length xc]∧Row wr (w.heap.size+1) 38 [.slice a2 ch.length c2]∧Row wr (w.heap.size+1+1) 38 [.slice none 0 0]∧Hid (FolS (fun b=>S b∧b<w.heap.size) (w1.heap.size+1) (w1.heap.size+1+1) w.heap.size w1.heap.size s.tn ta tc s.tab wr (comTo s.tab ch (D.take k)) n)∧Hid (∀j,j<k→chkV ch s.p.outs (nth D j)=0)) (fun _ _ i _ _ _=>D.length - (intOf i).toNat)
  case atStart=>exact ⟨0,0,Nat.zero_le _,rfl,Nat.zero_le _,hb2,hx3,R0,R1,RR,HFS,Lib.hid fun j hj=>by omega⟩
  case round=>
    clear R0 R1 RR HFS hb2 hx3 ex hs0 lR
    obtain ⟨k,n,hk,rfl,hn,hb,hb1,R0,R1,RR,HFS,HJ⟩:=hrel
    have lR:=RR.lt
    have hsz:=hb.size
    have hsz1:=hb1.size
    have r1:=R1.cell (j:=0) rfl
    have t2:=R0.cell (j:=2) rfl
    have t8:=R0.cell (j:=8) rfl
    have l0:=R0.lt
    by_cases hlt:k<D.length
    case neg=>
      obtain rfl:k=D.length:=by omega
      have HE0:Hid (earE s ch=0):=Lib.hid (by rw[HEA.out];exact firstE_zero HJ.out)
      have HPOS:Hid (∀u,∀y∈laterL s.tab D u,nth ch y.toNat≠ -2):=Lib.hid fun u y hy=>by
        obtain ⟨j,hj,e⟩:=List.getElem_of_mem (List.mem_filter.1 hy).1
        have h1:=chkV_pos (HJ.out j hj)
        rw[nth_eq hj,e]at h1
        omega
      rw[List.take_length]at HFS
      have HEW:=Lib.hid (earlyTo_wf (T:=s.tab) (D:=D) HCW.out s.tab.length)
      have hmk:=run_make_row' 36 3 (.int .i64 0) 8 Tryz.underlying36 info_int rfl .i64 .i64 s.tab.length (by omega) (by omega)
      obtain ⟨wA,rfl⟩:∃wA:World,wA=wr:=⟨_,rfl⟩
      clear r1 t2 HJ hk HU
      go_wp2_with fail
      clear t8 l0 hmk
      have RO:Row ((wA.alloc (.cells (madeCells #[.int .i64 0] s.tab.length) 3)).alloc (.cells #[.slice (some ⟨wA.heap.size,0,none⟩) s.tab.length s.tab.length] 38)) wA.heap.size 3 (outRow (earlyTo s.tab D ch 0) s.tab.length):=((Row.made wA (.int .i64 0) s.tab.length 3).get (show _=outRow (earlyTo s.tab D ch 0) s.tab.length from (outRow_nil _).symm)).alloc _
      have RB:Row ((wA.alloc (.cells (madeCells #[.int .i64 0] s.tab.length) 3)).alloc (.cells #[.slice (some ⟨wA.heap.size,0,none⟩) s.tab.length s.tab.length] 38)) (wA.heap.size+1) 38 [.slice (some ⟨wA.heap.size,0,none⟩) s.tab.length s.tab.length]:=by
        have:=row_new (wA.alloc (.cells (madeCells #[.int .i64 0] s.tab.length) 3)) [.slice (some ⟨wA.heap.size,0,none⟩) s.tab.length s.tab.length] 38
        rwa [World.size_alloc]at this
      have hbA:Below wA.heap.size wA ((wA.alloc (.cells (madeCells #[.int .i64 0] s.tab.length) 3)).alloc (.cells #[.slice (some ⟨wA.heap.size,0,none⟩) s.tab.length s.tab.length] 38)):=ext_alloc' (ext_alloc wA _) _
      obtain ⟨wB,hwB⟩:∃wB,wB=((wA.alloc (.cells (madeCells #[.int .i64 0] s.tab.length) 3)).alloc (.cells #[.slice (some ⟨wA.heap.size,0,none⟩) s.tab.length s.tab.length] 38)):=⟨_,rfl⟩
      rw[←hwB]at RO RB hbA ⊢
      clear hwB
      go_loopw [14,15,16,17,79,96,107] (fun _ _ _ _ i _ _ w'=>∃k:Nat,k≤s.tab.length∧i=.int .i64 k∧Below wA.heap.size wA w'∧Row w' wA.heap.size 3 (outRow (earlyTo s.tab D ch k) s.tab.length)∧Row w' (wA.heap.size+1) 38 [.slice (some ⟨wA.heap.size,0,none⟩) s.tab.length s.tab.length]) (fun _ _ _ _ i _ _ _=>s.tab.length - (intOf i).toNat)
      case atStart=>exact ⟨0,Nat.zero_le _,rfl,hbA,RO,RB⟩
      case round=>
        clear RO RB hbA wB
        obtain ⟨k,hk,rfl,hbA,RO,RB⟩:=hrel
        by_cases hlt:k<s.tab.length
        case neg=>
          obtain rfl:k=s.tab.length:=by omega
          have R0f:=RR.ext hbA
          have RO2:=RO.get (outRow_full (earlyTo_len s.tab D ch s.tab.length))
          have HI:=Lib.hid (RO2.ints (by rw[earlyTo_len];unfold maxLen;omega) HEW.out)
          rw[earlyTo_len]at HI
          have rb:=RB.cell (j:=0) rfl
          have lb:=RB.lt
          have c0:=R0f.cell (j:=0) rfl
          have f0:=R0f.free 0
          have lRf:=R0f.lt
          have q0:(wr.setCell ⟨w.heap.size+1+1,0,none⟩ (.slice (some ⟨wA.heap.size,0,none⟩) s.tab.length s.tab.length)).cell? ⟨w.heap.size+1+1,0,none⟩=some (.slice (some ⟨wA.heap.size,0,none⟩) s.tab.length s.tab.length):=(R0f.set 0 _).cell (j:=0) rfl
          have hexf:=Lib.hid ((ext_trans hb hbA).setCell (p:=⟨w.heap.size+1+1,0,none⟩) (by simp;omega) (.slice (some ⟨wA.heap.size,0,none⟩) s.tab.length s.tab.length))
          have hIf:=(HI.out.agree (w':=wr.setCell ⟨w.heap.size+1+1,0,none⟩ (.slice (some ⟨wA.heap.size,0,none⟩) s.tab.length s.tab.length)) (.of_grown (grownBy_setCell _ _ _ _) fun b hb e=>by injection e with e;omega)).mono (S':=fun b=>w.heap.size≤b) fun b hb=>by omega
          have hfin:=Lib.hid (HER.out _ (.agg #[.slice (some ⟨wA.heap.size,0,none⟩) s.tab.length s.tab.length]) HE0.out ⟨_,rfl,hIf⟩)
          go_wp2
          refine bodyPost_ret (v:=.tuple #[.agg #[.slice (some ⟨wA.heap.size,0,none⟩) s.tab.length s.tab.length],.int .i64 0]) (by simp[results,Tryz.results14,go_sem,q0]) rfl ?_
          exact .mk hexf.out hfin.out
        have hFk:=HFS.out.ext hbA
        have cC:=hFk.cc
        have c7:=hFk.c7
        have c8:=hFk.c8
        have hM:=hFk.mp
        have lC:=World.block_lt_of_cell? _ _ cC
        have l7:=World.block_lt_of_cell? _ _ c7
        have hwk:WF (k:Int):=wf_small (by omega)
        have HES:Hid (earlyTo s.tab D ch k++[outV (comTo s.tab ch D k) (befV s.tab k) (earlyTo s.tab D ch k)]=earlyTo s.tab D ch (k+1)):=Lib.hid (by rw[earlyTo_succ,←outV_eq (HPOS.out k),comTo_all])
        have KB:=Lib.hid fun W (hW:Below wr.heap.size wr W)=>pbefore_calls s.tn (hFk.tb.ext hW) HTB.out hlt
        have HBV:=HTB.out.bef hlt
        have HMI:Hid (mapI (comTo s.tab ch D) k=(comTo s.tab ch D k).map (Value.int .i64)):=Lib.hid rfl
        obtain ⟨o,ho⟩:∃o,o=comTo s.tab ch D k:=⟨_,rfl⟩
        obtain ⟨bv,hbv⟩:∃bv,bv=befV s.tab k:=⟨_,rfl⟩
        rw[←ho]at HES HMI
        rw[←hbv]at HES KB HBV
        have qk:=idx_own wA.heap.size s.tab.length s.tab.length hlt
        clear ho hbv hFk
        cases o with
        | none=>
          have hmiss:Hid (mapI (comTo s.tab ch D) k=none):=Lib.hid (by rw[HMI.out];rfl)
          go_wp2_with (at_lookup;refine wpList_miss rfl _ _ 95 rfl 3 Tryz.underlying95 (.int .i64 0) (zero_int1 _) rfl hM (k:Int) rfl hwk hmiss.out ?_)
          refine (KB.out _ (.refl _ _)).mono ?_
          rintro _ w5 ⟨_,rfl,hb5,rfl⟩
          replace hbA:=hbA.trans (hb5.mono hbA.size)
          replace RO:=RO.ext hb5
          replace RB:=RB.ext hb5
          clear hM cC c7 c8 lC l7 KB hmiss hb5 HMI
          rcases HBV with hb0 | ⟨u,huk,hbu⟩
          · have d1:decide (0≤bv)=false:=decide_eq_false (by omega)
            have HES2:=HES.out
            rw[show outV none bv (earlyTo s.tab D ch k)= -1 from if_pos (by omega)]at HES2
            replace HES:=Lib.hid HES2
            clear HES2 hb0
            have RO6:=(RO.set k (.int .i64 (-1))).get (show _=outRow (earlyTo s.tab D ch (k+1)) s.tab.length by rw[outRow_set (earlyTo_len _ _ _ _) hlt,HES.out])
            have RB6:=RB.grown (grownBy_setCell w5 wA.heap.size k (.int .i64 (-1))) (by simp)
            have hb6:=hbA.setCell (p:=⟨wA.heap.size,k,none⟩) (Nat.le_refl _) (.int .i64 (-1))
            have ck:=RO.cell (j:=k) (outRow_mid (earlyTo_len _ _ _ _) hlt)
            have fk:=RO.free k
            have lk:=RO.lt
            have rb:=RB.cell (j:=0) rfl
            have lb:=RB.lt
            clear RO RB hbA
            go_wp2
            go_roundw
            case rel=>exact ⟨k+1,by omega,by go_num,hb6,RO6,RB6⟩
            case measure=>simp[intOf];omega
          · have d1:decide (0≤bv)=true:=decide_eq_true (by omega)
            have HES2:=HES.out
            rw[show outV none bv (earlyTo s.tab D ch k)=nth (earlyTo s.tab D ch k) bv.toNat from if_neg (by omega),hbu,Int.toNat_natCast]at HES2
            replace HES:=Lib.hid HES2
            have cu:=RO.cell (j:=u) (outRow_get (by rw[earlyTo_len];exact huk))
            obtain ⟨y,hy⟩:∃y,y=nth (earlyTo s.tab D ch k) u:=⟨_,rfl⟩
            rw[←hy]at HES cu
            have qu:=idx_own wA.heap.size s.tab.length s.tab.length (show u<s.tab.length by omega)
            subst hbu
            clear HES2 hy
            have RO6:=(RO.set k (.int .i64 y)).get (show _=outRow (earlyTo s.tab D ch (k+1)) s.tab.length by rw[outRow_set (earlyTo_len _ _ _ _) hlt,HES.out])
            have RB6:=RB.grown (grownBy_setCell w5 wA.heap.size k (.int .i64 y)) (by simp)
            have hb6:=hbA.setCell (p:=⟨wA.heap.size,k,none⟩) (Nat.le_refl _) (.int .i64 y)
            have ck:=RO.cell (j:=k) (outRow_mid (earlyTo_len _ _ _ _) hlt)
            have fk:=RO.free k
            have lk:=RO.lt
            have rb:=RB.cell (j:=0) rfl
            have lb:=RB.lt
            have RO7:=RO6.ext (drewN_below _ _ 1)
            have RB7:=RB6.ext (drewN_below _ _ 1)
            have hb7:=hb6.trans (drewN_below _ _ 1)
            clear RO RB hbA RO6 RB6 hb6
            go_wp2
            go_region
            go_wp2
            go_roundw
            case rel=>exact ⟨k+1,by omega,by go_num,hb7,RO7,RB7⟩
            case measure=>simp[intOf];omega
        | some x=>
          have hhit:Hid (mapI (comTo s.tab ch D) k=some (.int .i64 x)):=Lib.hid (by rw[HMI.out];rfl)
          go_wp2_with (at_lookup;refine wpList_hit rfl _ _ 95 rfl 3 Tryz.underlying95 (.int .i64 0) (zero_int1 _) rfl hM (k:Int) rfl hwk (.int .i64 x) hhit.out ?_)
          refine (KB.out _ (.refl _ _)).mono ?_
          rintro _ w5 ⟨_,rfl,hb5,rfl⟩
          replace hbA:=hbA.trans (hb5.mono hbA.size)
          replace RO:=RO.ext hb5
          replace RB:=RB.ext hb5
          clear hM cC c7 c8 lC l7 KB hhit hb5 HMI HBV
          by_cases hx2:x= -2
          · have d1:(x != -2)=false:=by simp[hx2]
            have HES2:=HES.out
            rw[show outV (some x) bv (earlyTo s.tab D ch k)= -1 from if_pos hx2]at HES2
            replace HES:=Lib.hid HES2
            clear HES2 hx2
            have RO6:=(RO.set k (.int .i64 (-1))).get (show _=outRow (earlyTo s.tab D ch (k+1)) s.tab.length by rw[outRow_set (earlyTo_len _ _ _ _) hlt,HES.out])
            have RB6:=RB.grown (grownBy_setCell w5 wA.heap.size k (.int .i64 (-1))) (by simp)
            have hb6:=hbA.setCell (p:=⟨wA.heap.size,k,none⟩) (Nat.le_refl _) (.int .i64 (-1))
            have ck:=RO.cell (j:=k) (outRow_mid (earlyTo_len _ _ _ _) hlt)
            have fk:=RO.free k
            have lk:=RO.lt
            have rb:=RB.cell (j:=0) rfl
            have lb:=RB.lt
            clear RO RB hbA
            go_wp2
            go_roundw
            case rel=>exact ⟨k+1,by omega,by go_num,hb6,RO6,RB6⟩
            case measure=>simp[intOf];omega
          · have d1:(x != -2)=true:=by simp[hx2]
            have HES2:=HES.out
            rw[show outV (some x) bv (earlyTo s.tab D ch k)=x from if_neg hx2]at HES2
            replace HES:=Lib.hid HES2
            clear HES2 hx2
            have RO6:=(RO.set k (.int .i64 x)).get (show _=outRow (earlyTo s.tab D ch (k+1)) s.tab.length by rw[outRow_set (earlyTo_len _ _ _ _) hlt,HES.out])
            have RB6:=RB.grown (grownBy_setCell w5 wA.heap.size k (.int .i64 x)) (by simp)
            have hb6:=hbA.setCell (p:=⟨wA.heap.size,k,none⟩) (Nat.le_refl _) (.int .i64 x)
            have ck:=RO.cell (j:=k) (outRow_mid (earlyTo_len _ _ _ _) hlt)
            have fk:=RO.free k
            have lk:=RO.lt
            have rb:=RB.cell (j:=0) rfl
            have lb:=RB.lt
            clear RO RB hbA
            go_wp2
            go_roundw
            case rel=>exact ⟨k+1,by omega,by go_num,hb6,RO6,RB6⟩
            case measure=>simp[intOf];omega
    obtain ⟨z,hz,hzc⟩:=HDN.out (nth D k) (nth_mem hlt)
    have q1:=HU.out.idx hlt
    have clk:=(HU.out.ext hb1).cellN hlt
    rw[hz]at clk
    have q2:=H2.out.idx hzc
    have cck:=(H2.out.ext hb).cellN hzc
    have hbk:=World.block_lt_of_cell? _ _ clk
    have hbk2:=World.block_lt_of_cell? _ _ cck
    have HCH:Hid (chkV ch s.p.outs (nth D k)=if nth ch z= -1 then 20 else if nth ch z<0∨s.p.outs≤nth ch z then 2 else 0):=Lib.hid (by rw[hz];rfl)
    have HCS:Hid (comTo s.tab ch (D.take (k+1))=folL (comTo s.tab ch (D.take k)) (nth ch z) (anc s.tab z)):=Lib.hid (by rw[comTo_succ _ _ hlt,hz];rfl)
    have hyw:WF (nth ch z):=nth_wf HCW.out _
    obtain ⟨y,hy⟩:∃y,y=nth ch z:=⟨_,rfl⟩
    rw[←hy]at HCH HCS cck hyw
    clear hz hy
    by_cases hy1:y= -1
    · have RE:Hid (earE s ch=20∧(20:Int)≠0):=Lib.hid (by
        have h20:chkV ch s.p.outs (nth D k)=20:=by rw[HCH.out,if_pos hy1]
        exact ⟨by rw[HEA.out,firstE_at (f:=fun i=>chkV ch s.p.outs (nth D i)) HJ.out (by rw[h20];decide) hlt];exact h20,by decide⟩)
      have e1:(y== -1)=true:=by simp[hy1]
      clear hy1
      have c0:=RR.cell (j:=0) rfl
      have f0:=RR.free 0
      have q0:(wr.setCell ⟨w.heap.size+1+1,0,none⟩ (.slice none 0 0)).cell? ⟨w.heap.size+1+1,0,none⟩=some (.slice none 0 0):=(RR.set 0 _).cell (j:=0) rfl
      have hfin:=Lib.hid (earlyR_err (B:=w.heap.size) (w':=wr.setCell ⟨w.heap.size+1+1,0,none⟩ (.slice none 0 0)) RE.out.1 RE.out.2)
      have hexf:=Lib.hid (hb.setCell (p:=⟨w.heap.size+1+1,0,none⟩) (by simp;omega) (.slice none 0 0))
      go_wp2
      refine bodyPost_ret (v:=.tuple #[.agg #[.slice none 0 0],.int .i64 (20)]) (by simp[results,Tryz.results14,go_sem,q0]) rfl ?_
      exact .mk hexf.out hfin.out
    by_cases hy2:y<0∨s.p.outs≤y
    · have RE:Hid (earE s ch=2∧(2:Int)≠0):=Lib.hid (by
        have h20:chkV ch s.p.outs (nth D k)=2:=by rw[HCH.out,if_neg hy1,if_pos hy2]
        exact ⟨by rw[HEA.out,firstE_at (f:=fun i=>chkV ch s.p.outs (nth D i)) HJ.out (by rw[h20];decide) hlt];exact h20,by decide⟩)
      have e1:(y== -1)=false:=by simp[hy1]
      have HY2:=Lib.hid hy2
      clear hy1 hy2
      by_cases hy3:y<0
      · have e2:decide (y<0)=true:=decide_eq_true hy3
        clear hy3
        have c0:=RR.cell (j:=0) rfl
        have f0:=RR.free 0
        have q0:(wr.setCell ⟨w.heap.size+1+1,0,none⟩ (.slice none 0 0)).cell? ⟨w.heap.size+1+1,0,none⟩=some (.slice none 0 0):=(RR.set 0 _).cell (j:=0) rfl
        have hfin:=Lib.hid (earlyR_err (B:=w.heap.size) (w':=wr.setCell ⟨w.heap.size+1+1,0,none⟩ (.slice none 0 0)) RE.out.1 RE.out.2)
        have hexf:=Lib.hid (hb.setCell (p:=⟨w.heap.size+1+1,0,none⟩) (by simp;omega) (.slice none 0 0))
        go_wp2
        refine bodyPost_ret (v:=.tuple #[.agg #[.slice none 0 0],.int .i64 (2)]) (by simp[results,Tryz.results14,go_sem,q0]) rfl ?_
        exact .mk hexf.out hfin.out
      · have e2:decide (y<0)=false:=decide_eq_false hy3
        have e3:decide (s.p.outs≤y)=true:=decide_eq_true (by have:=HY2.out;omega)
        clear hy3
        have c0:=RR.cell (j:=0) rfl
        have f0:=RR.free 0
        have q0:(wr.setCell ⟨w.heap.size+1+1,0,none⟩ (.slice none 0 0)).cell? ⟨w.heap.size+1+1,0,none⟩=some (.slice none 0 0):=(RR.set 0 _).cell (j:=0) rfl
        have hfin:=Lib.hid (earlyR_err (B:=w.heap.size) (w':=wr.setCell ⟨w.heap.size+1+1,0,none⟩ (.slice none 0 0)) RE.out.1 RE.out.2)
        have hexf:=Lib.hid (hb.setCell (p:=⟨w.heap.size+1+1,0,none⟩) (by simp;omega) (.slice none 0 0))
        go_wp2
        refine bodyPost_ret (v:=.tuple #[.agg #[.slice none 0 0],.int .i64 (2)]) (by simp[results,Tryz.results14,go_sem,q0]) rfl ?_
        exact .mk hexf.out hfin.out
    have e1:(y== -1)=false:=by simp[hy1]
    have e2:decide (y<0)=false:=decide_eq_false (by omega)
    have e3:decide (s.p.outs≤y)=false:=decide_eq_false (by omega)
    have HX:Hid (∀j,j<k+1→chkV ch s.p.outs (nth D j)=0):=Lib.hid fun j hj=>by
      by_cases e:j=k
      · rw[e,HCH.out,if_neg hy1,if_neg hy2]
      · exact HJ.out j (by omega)
    obtain ⟨q,kk,hV⟩:=HTB.out.2 z (by have:=HLEN.out;omega)
    have hkk:kk≤6:=Nat.le_trans hV.kl HK6.out
    have KF:=Lib.hid (fol_calls (B:=w1.heap.size) (C:=w1.heap.size+1) (FB:=w1.heap.size+1+1) (SB:=w.heap.size) HTB.out hl (Nat.le_refl _) hyw kk z q (by have:=HLEN.out;omega) hV wr _ n HFS.out (by omega) hsz1)
    have HAN:Hid (anc s.tab z=ancL s.tab kk z):=Lib.hid (by unfold anc;rw[hV.rnd])
    rw[←HAN.out,←HCS.out]at KF
    have cf:wr.cell? ⟨w1.heap.size+1+1,0,none⟩=some (.func (.func 39) #[] #[.pointer (some ⟨w1.heap.size+1,0,none⟩),.pointer (some ⟨w1.heap.size+1+1,0,none⟩),.pointer (some ⟨w.heap.size,0,none⟩)]):=HFS.out.cf
    have lF:=World.block_lt_of_cell? _ _ cf
    clear hy1 hy2 hV HAN HCS
    go_wp2_with fail
    refine KF.out.mono ?_
    rintro _ w4 ⟨⟨rv,rfl⟩,n4,hn4,hF4,hbB,hAA⟩
    have hne:w1.heap.size≠w.heap.size∧w1.heap.size≠w.heap.size+1∧w1.heap.size≠w.heap.size+1+1:=⟨by omega,by omega,by omega⟩
    have hb4:=hb.trans (hbB.mono (show w.heap.size≤w1.heap.size by omega))
    have hb14:=hb1.trans hbB
    have R04:=R0.agree hAA (fun e=>hne.1 e.symm)
    have R14:=R1.agree hAA (fun e=>hne.2.1 e.symm)
    have RR4:=RR.agree hAA (fun e=>hne.2.2 e.symm)
    have hn44:n4≤(k+1) * 7:=by omega
    have HF4:=Lib.hid hF4
    clear hb hb1 R0 R1 RR HFS r1 t2 t8 l0 lR clk cck cf lF hbB hAA hF4 KF q1 q2 hbk hbk2
    go_wp2
    go_roundw
    case rel=>exact ⟨k+1,n4,by omega,by go_num,hn44,hb4,hb14,R04,R14,RR4,HF4,HX⟩
    case measure=>simp[intOf];omega
end Go.Proofs.YtcopehiceihdaaaGreat
