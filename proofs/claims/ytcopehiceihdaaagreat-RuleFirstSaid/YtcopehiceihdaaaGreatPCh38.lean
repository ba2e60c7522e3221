/- Part of the proof that the laws of chapter 45 answer true for every input. -/
import Derived.Test.YtcopehiceihdaaaGreatPCh36
import Derived.Test.YtcopehiceihdaaaGreatPCh00
import Derived.Deep.OwnRows
set_option linter.unusedSimpArgs false
set_option linter.unnecessarySimpa false
set_option linter.unusedVariables false
set_option maxRecDepth 100000
set_option maxHeartbeats 40000000
namespace Go.Proofs.YtcopehiceihdaaaGreat
open Go.RowKit
attribute [local go_sem ↓] Go.wp_at_zero Go.wp_at_succ
theorem info_bool1:(Tryz.prog.info? 4).map (fun i=>(i.zero,i.size,i.bytes))=some (some (.bool false),1,1):=by kernel_rfl
def yesRow (f:Nat→Bool) (n:Nat):List Value:=(List.range n).map fun i=>Value.bool (f i)
theorem yesRow_get {f:Nat→Bool} {n i:Nat} (h:i<n):(yesRow f n)[i]? =some (.bool (f i)):=by simp[yesRow,h]
theorem yesRow_len (f:Nat→Bool) (n:Nat):(yesRow f n).length=n:=by simp[yesRow]
theorem yesRow_congr {f g:Nat→Bool} {n:Nat} (h:∀i,i<n→f i=g i):yesRow f n=yesRow g n:=by
  unfold yesRow
  refine List.map_congr_left fun i hi=>?_
  rw[h i (List.mem_range.1 hi)]
theorem yesRow_set {f:Nat→Bool} {n i:Nat} (h:i<n):(yesRow f n).set i (.bool true)=yesRow (fun j=>f j||i==j) n:=by
  apply List.ext_getElem?
  intro j
  rw[List.getElem?_set]
  by_cases e:i=j
  · subst e
    rw[if_pos rfl,yesRow_len,if_pos h,yesRow_get h]
    simp
  · rw[if_neg e]
    by_cases hj:j<n
    · rw[yesRow_get hj,yesRow_get hj]
      have:(i==j)=false:=by simp[e]
      rw[this,Bool.or_false]
    · rw[List.getElem?_eq_none (by rw[yesRow_len];omega),List.getElem?_eq_none (by rw[yesRow_len];omega)]
theorem yesRow_none (n:Nat):yesRow (fun _=>false) n=List.replicate n (.bool false):=by
  apply List.ext_getElem?
  intro j
  by_cases hj:j<n
  · rw[yesRow_get hj];simp[hj]
  · rw[List.getElem?_eq_none (by rw[yesRow_len];omega),List.getElem?_eq_none (by rw[List.length_replicate];omega)]
def yesTo (s:SysF) (N K k v:Nat):Bool:=(List.range k).any fun e=>(List.range N).any fun q=>relE s N K v e q
def yesIn (s:SysF) (N K k j v:Nat):Bool:=yesTo s N K k v||(List.range j).any fun q=>relE s N K v k q
theorem yesIn_zero (s:SysF) (N K k v:Nat):yesIn s N K k 0 v=yesTo s N K k v:=by unfold yesIn;simp
theorem yesIn_all (s:SysF) (N K k v:Nat):yesIn s N K k N v=yesTo s N K (k+1) v:=by unfold yesIn yesTo;rw[List.range_succ (n:=k),List.any_append];simp
theorem yesIn_succ (s:SysF) (N K k j v:Nat):yesIn s N K k (j+1) v=(yesIn s N K k j v||relE s N K v k j):=by unfold yesIn;rw[List.range_succ,List.any_append,Bool.or_assoc];simp
theorem yesTo_all (s:SysF) (N K v:Nat):yesTo s N K s.ex.length v=relB s N K v:=rfl
theorem idx_yes (B n c k:Nat) (hk:k<n) (W:World):(Instr.indexAt 163 (.slice (some ⟨B,0,none⟩) n c) (.int .i64 k)).run Tryz.prog W=.ok (.pointer (some ⟨B,k,none⟩)) W:=by
  obtain ⟨i0,hi,hz0,hz1,hz2⟩:=info_parts info_bool1
  have hE:Tryz.prog.elem 163=4:=by simp[Program.elem,Tryz.underlying163]
  rw[run_indexAt_slice W 163 _ n c .i64 k (by rw[hE];exact Tryz.underlying163),if_pos (by omega),hE]
  simp[sizeOf,typeInfo,hi,hz1,Result.andThen,Addr.add]
  try exact fun h=>h.symm
theorem accept_calls (W:World) (i:Nat):Calls Tryz.prog 57 #[.int .i64 i] W fun e w'=>e=.returned (.bool true)∧w'=W:=by
  go_enter Tryz.func57,Tryz.ntmps57
  go_wp2
  go_ret
  exact ⟨rfl,rfl⟩
theorem prelevant_calls {S:Nat→Prop} {w:World} {v:Value} {s:SysF} {N K:Nat} (h:SysV S w v s) (hg:GoodS s N K) (hl:s.tab.length≤100000):
    Calls Tryz.prog 56 #[v,.func (.func 57) #[] #[]] w (Post w fun w' r=>Ints (fun b=>w.heap.size≤b) w' r (decL s N K)):=by
  have hN:=hg.pok.n1.2
  have HV:=Lib.hid fun e (he:e<s.ex.length) q (hq:q<N)=>hg.view he (Nat.le_refl K) hq
  have HLN:Hid (∀e,e<s.ex.length→(nthL (nthX s.ex e).vs K).length=N∧(nthX s.ex e).vs.length=K+1):=Lib.hid fun e he=>by obtain ⟨c,hc⟩:=hg.ex e he;exact ⟨hc.rows K (Nat.le_refl _),hc.len⟩
  obtain ⟨vc,vs,vt,vx,rfl,hc,hs,ht,hx⟩:=h
  obtain ⟨ca,cc,rfl,_⟩:=hc.form
  obtain ⟨sa,sc,rfl,_⟩:=hs.form
  obtain ⟨ta,tc,rfl,_⟩:=ht.form
  obtain ⟨xa,xc,rfl,xad,_⟩:=hx.form2
  have hmk:=run_make_row' 163 4 (.bool false) 1 Tryz.underlying163 info_bool1 rfl .i64 .i64 s.tab.length (by omega) (by omega)
  have hrr:=hg.rnd
  have KO:Hid (∀e,e<s.ex.length→∀a1 c1 a3 c3,∀W,Sl (kFlat 7) S W (.slice a1 (nthX s.ex e).word.length c1) (nthX s.ex e).word→Calls Tryz.prog 58 #[.agg #[.int .i64 s.p.n,.int .i64 s.p.ins,.int .i64 s.p.outs,.slice ca s.p.cs.length cc,.int .i64 s.p.an,.slice sa s.p.st.length sc,.int .i64 s.p.rounds,.int .i64 s.tn,.slice ta s.tab.length tc,.slice xa s.ex.length xc],.agg #[.int .i64 (nthX s.ex e).case,.slice a1 (nthX s.ex e).word.length c1,.slice a3 (nthX s.ex e).vs.length c3]] W (Post W fun _ r=>r=.int .i64 (maskW N (nthX s.ex e).word))):=Lib.hid fun e he a1 c1 a3 c3 W hW=>by
    obtain ⟨f,hf,hf2⟩:=hg.flty he
    exact pobliged_calls _ hW hg.tn hN hf hf2
  rw[hrr]at KO ⊢
  have ex:=ext_alloc w (.cells #[.int .i64 s.p.n,.int .i64 s.p.ins,.int .i64 s.p.outs,.slice ca s.p.cs.length cc,.int .i64 s.p.an,.slice sa s.p.st.length sc,.int .i64 K,.int .i64 s.tn,.slice ta s.tab.length tc,.slice xa s.ex.length xc] 35)
  have R0:=row_new w [.int .i64 s.p.n,.int .i64 s.p.ins,.int .i64 s.p.outs,.slice ca s.p.cs.length cc,.int .i64 s.p.an,.slice sa s.p.st.length sc,.int .i64 K,.int .i64 s.tn,.slice ta s.tab.length tc,.slice xa s.ex.length xc] 35
  have t0:=R0.cell (j:=0) rfl
  have t1:=R0.cell (j:=1) rfl
  have t2:=R0.cell (j:=2) rfl
  have t3:=R0.cell (j:=3) rfl
  have t4:=R0.cell (j:=4) rfl
  have t5:=R0.cell (j:=5) rfl
  have t6:=R0.cell (j:=6) rfl
  have t7:=R0.cell (j:=7) rfl
  have t8:=R0.cell (j:=8) rfl
  have t9:=R0.cell (j:=9) rfl
  have l0:=R0.lt
  have HX:=Lib.hid hx
  have HQ:=Lib.hid (idx_exec xad)
  have hxm:=hx.few
  clear hc hs ht hx hg hrr xad
  have HPO:Hid (∀w' r,Below w.heap.size w w'→Ints (fun b=>w.heap.size≤b) w' r (passL (relB s N K) s.tab.length)→Post w (fun w' r=>Ints (fun b=>w.heap.size≤b) w' r (decL s N K)) (.returned r) w'):=Lib.hid fun w' r h1 h2=>.mk h1 h2
  have HRB:=Lib.hid (yesTo_all s N K)
  go_enter Tryz.func56,Tryz.ntmps56
  go_wp2
  have RY:Row ((w.alloc (.cells #[.int .i64 s.p.n,.int .i64 s.p.ins,.int .i64 s.p.outs,.slice ca s.p.cs.length cc,.int .i64 s.p.an,.slice sa s.p.st.length sc,.int .i64 K,.int .i64 s.tn,.slice ta s.tab.length tc,.slice xa s.ex.length xc] 35)).alloc (.cells (madeCells #[.bool false] s.tab.length) 4)) (w.heap.size+1) 4 (yesRow (yesTo s N K 0) s.tab.length):=by
    have:=Row.made (w.alloc (.cells #[.int .i64 s.p.n,.int .i64 s.p.ins,.int .i64 s.p.outs,.slice ca s.p.cs.length cc,.int .i64 s.p.an,.slice sa s.p.st.length sc,.int .i64 K,.int .i64 s.tn,.slice ta s.tab.length tc,.slice xa s.ex.length xc] 35)) (.bool false) s.tab.length 4
    rw[World.size_alloc,←yesRow_none]at this
    exact this
  replace R0:=R0.alloc (.cells (madeCells #[.bool false] s.tab.length) 4)
  replace ex:=ext_alloc' ex (.cells (madeCells #[.bool false] s.tab.length) 4)
  clear t0 t1 t2 t3 t4 t5 t6 t7 t8 t9 l0 hmk
  obtain ⟨wA,hwA⟩:∃wA,wA=((w.alloc (.cells #[.int .i64 s.p.n,.int .i64 s.p.ins,.int .i64 s.p.outs,.slice ca s.p.cs.length cc,.int .i64 s.p.an,.slice sa s.p.st.length sc,.int .i64 K,.int .i64 s.tn,.slice ta s.tab.length tc,.slice xa s.ex.length xc] 35)).alloc (.cells (madeCells #[.bool false] s.tab.length) 4)):=⟨_,rfl⟩
  rw[←hwA]at R0 ex RY ⊢
  clear hwA
  go_loopw [7,8,9,10,22] (fun _ _ _ _ i wr=>∃k:Nat,k≤s.ex.length∧i=.int .i64 k∧Below w.heap.size w wr∧Row wr w.heap.size 35 [.int .i64 s.p.n,.int .i64 s.p.ins,.int .i64 s.p.outs,.slice ca s.p.cs.length cc,.int .i64 s.p.an,.slice sa s.p.st.length sc,.int .i64 K,.int .i64 s.tn,.slice ta s.tab.length tc,.slice xa s.ex.length xc]∧Row wr (w.heap.size+1) 4 (yesRow (yesTo s N K k) s.tab.length)) (fun _ _ _ _ i _=>s.ex.length - (intOf i).toNat)
  case atStart=>exact ⟨0,Nat.zero_le _,rfl,ex,R0,RY⟩
  case round=>
    clear ex R0 RY wA
    obtain ⟨k,hk,rfl,hb,R0,RY⟩:=hrel
    by_cases hlt:k<s.ex.length
    case neg=>
      obtain rfl:k=s.ex.length:=by omega
      have hfe:yesTo s N K s.ex.length=relB s N K:=funext HRB.out
      rw[hfe]at RY
      obtain ⟨f,hf⟩:∃f,f=relB s N K:=⟨_,rfl⟩
      rw[←hf]at RY HPO
      have l0:=R0.lt
      have t9:=R0.cell (j:=9) rfl
      clear hfe hf HRB
      go_wp2
      clear t9 l0
      go_loopw [11,12,13,54] (fun o _ _ i wr=>∃k:Nat,k≤s.tab.length∧i=.int .i64 k∧Below w.heap.size w wr∧Row wr (w.heap.size+1) 4 (yesRow f s.tab.length)∧Hid (wr.ownsRow (w.heap.size+2) 3 1 o (passL f k).length ((passL f k).map (Value.int .i64)))) (fun _ _ _ i _=>s.tab.length - (intOf i).toNat)
      case atStart=>exact ⟨0,Nat.zero_le _,rfl,hb,RY,Lib.hid (World.ownsRow_nil _ _ _ _)⟩
      case round=>
        clear hb R0 RY
        obtain ⟨k,hk,rfl,hb,RY,HO⟩:=hrel
        have hpl:=passL_len f k
        by_cases hlt:k<s.tab.length
        case neg=>
          obtain rfl:k=s.tab.length:=by omega
          have HI:=Lib.hid ((Ints.of_own HO.out (passL_wf (by omega))).mono (S':=fun b=>w.heap.size≤b) fun b hb=>by omega)
          have HII:=Lib.hid (HPO.out wr _ hb HI.out)
          go_wp2
          go_ret
          exact HII.out
        have HP:Hid (passL f (k+1)=passL f k++if f k then [(k:Int)] else []):=Lib.hid rfl
        obtain ⟨acc,hacc⟩:∃acc,acc=passL f k:=⟨_,rfl⟩
        rw[←hacc]at HO HP hpl
        have q1:=idx_yes (w.heap.size+1) s.tab.length s.tab.length k hlt
        have cy:=RY.cell (j:=k) (yesRow_get hlt)
        have ly:=RY.lt
        obtain ⟨bt,hbt⟩:∃bt,bt=f k:=⟨_,rfl⟩
        rw[←hbt]at cy HP
        have hsz:=hb.size
        have HRY:=Lib.hid RY
        clear hacc hbt RY
        cases bt with
        | false=>
          rw[if_neg (by simp),List.append_nil]at HP
          rw[←HP.out]at HO
          go_wp2
          go_roundw
          case rel=>exact ⟨k+1,by omega,by go_num,hb,HRY.out,HO⟩
          case measure=>simp[intOf];omega
        | true=>
          rw[if_pos rfl]at HP
          have KA:=Lib.hid (accept_calls wr k)
          go_wp2_with fail
          refine KA.out.mono ?_
          rintro _ _ ⟨rfl,rfl⟩
          go_wp2_with (at_builtin;refine wpList_push rfl (.tmp 65) (.tmp 67) 36 rfl 3 _ 8 Tryz.underlying36 info_int rfl (w.heap.size+2) _ _ _ rfl HO.out (.int .i64 k) rfl rfl (by omega) (by omega) (by omega) ?_;intro g' c' w5 hown5 hbel5 hag5 hat5)
          have hT2:=Lib.hid (show w5.ownsRow (w.heap.size+2) 3 1 (.slice (some ⟨g',0,none⟩) (acc.length+1) c') (passL f (k+1)).length ((passL f (k+1)).map (Value.int .i64)) from by rw[HP.out];simpa using hown5)
          have R5:=row_under HRY.out (by omega) hbel5
          have hb5:=hb.trans (hbel5.mono (show w.heap.size≤w.heap.size+2 by omega))
          clear hown5 hbel5 hag5 hat5 hb HO cy q1 ly KA HRY
          go_wp2
          go_roundw
          case rel=>exact ⟨k+1,by omega,by go_num,hb5,R5,hT2⟩
          case measure=>simp[intOf];omega
    obtain ⟨hln,hvl⟩:=HLN.out k hlt
    have HVW:=Lib.hid (HV.out k hlt)
    have q1:=HQ.out k hlt
    obtain ⟨a1,c1,a3,c3,z0,z1,z2,i1,i2⟩:=HX.out.exec hlt
    replace z0:=cell_ext z0 hb
    replace z1:=cell_ext z1 hb
    replace z2:=cell_ext z2 hb
    have KO2:=Lib.hid fun W (hW:Below wr.heap.size wr W)=>KO.out k hlt a1 c1 a3 c3 W (i1.ext (ext_trans hb hW))
    have HRE:Hid (∀v q,relE s N K v k q=(nth (nthL (nthX s.ex k).vs K) q==(v:Int)&&(maskW N (nthX s.ex k).word).testBit q)):=Lib.hid fun v q=>rfl
    obtain ⟨x,hx⟩:∃x,x=nthX s.ex k:=⟨_,rfl⟩
    rw[←hx]at z0 z1 z2 KO2 i2 hvl hln HRE HVW
    have bk:=World.block_lt_of_cell? _ _ z0
    have RYlt:=RY.lt
    have RX:=row_new wr [.int .i64 x.case,.slice a1 x.word.length c1,.slice a3 x.vs.length c3] 68
    have R0A:=R0.alloc (.cells #[.int .i64 x.case,.slice a1 x.word.length c1,.slice a3 x.vs.length c3] 68)
    have RYA:=RY.alloc (.cells #[.int .i64 x.case,.slice a1 x.word.length c1,.slice a3 x.vs.length c3] 68)
    have exA:=ext_alloc wr (.cells #[.int .i64 x.case,.slice a1 x.word.length c1,.slice a3 x.vs.length c3] 68)
    have t0:=R0A.cell (j:=0) rfl
    have t1:=R0A.cell (j:=1) rfl
    have t2:=R0A.cell (j:=2) rfl
    have t3:=R0A.cell (j:=3) rfl
    have t4:=R0A.cell (j:=4) rfl
    have t5:=R0A.cell (j:=5) rfl
    have t6:=R0A.cell (j:=6) rfl
    have t7:=R0A.cell (j:=7) rfl
    have t8:=R0A.cell (j:=8) rfl
    have t9:=R0A.cell (j:=9) rfl
    have l0:=R0A.lt
    have HVL:=Lib.hid hvl
    have HLN0:=Lib.hid hln
    clear hx hvl hln
    go_wp2_with fail
    refine (KO2.out _ exA).mono ?_
    rintro _ w1 ⟨_,rfl,hb1,rfl⟩
    replace R0:=R0A.ext hb1
    replace RY:=RYA.ext hb1
    replace RX:=RX.ext hb1
    have hr1:=ext_trans exA hb1
    replace hb:=ext_trans hb hr1
    clear t0 t1 t2 t3 t4 t5 t6 t7 t8 t9 l0 hb1 exA R0A RYA KO2 z0 z1 z2 bk q1
    have hmm:=maskW_lt hN x.word
    obtain ⟨m,hm⟩:∃m,m=maskW N x.word:=⟨_,rfl⟩
    rw[←hm]at hmm HRE ⊢
    have hKv:K<x.vs.length:=by have:=HVL.out;omega
    have hln:=HLN0.out
    obtain ⟨_,_,hee,ad2,_⟩:=i2.form
    cases hee
    obtain ⟨i0,hi,_,hz1,_⟩:=info_parts info_ints
    have q2:=idx_one Tryz.underlying66 hi hz1 ad2 K hKv
    obtain ⟨u,cu,iu⟩:=i2.at (.refl _ _) hKv
    obtain ⟨fa,fc,rfl,_⟩:=iu.form
    have cu':=cell_ext cu hb
    have bu:=World.block_lt_of_cell? _ _ cu'
    obtain ⟨l,hl⟩:∃l,l=nthL x.vs K:=⟨_,rfl⟩
    rw[←hl]at iu cu' hln HRE HVW
    have hbx:wr.heap.size<w1.heap.size:=RX.lt
    have x2:=RX.cell (j:=2) rfl
    have t6:=R0.cell (j:=6) rfl
    have l0:=R0.lt
    have HFI:=Lib.hid iu
    obtain ⟨L,hL⟩:∃L,L=x.vs.length:=⟨_,rfl⟩
    rw[←hL]at x2 q2
    rw[hln]at HFI cu'
    have HLN1:=Lib.hid hln
    have HRX:=Lib.hid RX
    clear HLN0 ad2 hi hz1 cu iu i1 i2 hl hm hL hKv RX hr1 hln
    go_wp2
    clear x2 t6 l0 cu' bu q2
    replace RY:=RY.get (show yesRow (yesTo s N K k) s.tab.length=yesRow (yesIn s N K k 0) s.tab.length from yesRow_congr fun i _=>(yesIn_zero s N K k i).symm)
    go_loopw [9,10,37] (fun _ _ i wi=>∃j:Nat,j≤N∧i=.int .i64 j∧Below w.heap.size w wi∧Agree (fun b=>b≠w.heap.size+1) w1 wi∧Row wi w.heap.size 35 [.int .i64 s.p.n,.int .i64 s.p.ins,.int .i64 s.p.outs,.slice ca s.p.cs.length cc,.int .i64 s.p.an,.slice sa s.p.st.length sc,.int .i64 K,.int .i64 s.tn,.slice ta s.tab.length tc,.slice xa s.ex.length xc]∧Row wi (w.heap.size+1) 4 (yesRow (yesIn s N K k j) s.tab.length)) (fun _ _ i _=>N - (intOf i).toNat)
    case atStart=>exact ⟨0,Nat.zero_le _,rfl,hb,.refl _ _,R0,RY⟩
    case round=>
      clear hb R0 RY
      obtain ⟨j,hj,rfl,hb,hA,R0,RY⟩:=hrel
      by_cases hjl:j<N
      case neg=>
        obtain rfl:j=N:=by omega
        have RY2:=RY.get (show yesRow (yesIn s j K k j) s.tab.length=yesRow (yesTo s j K (k+1)) s.tab.length from yesRow_congr fun i _=>yesIn_all s j K k i)
        clear RY
        go_wp2
        go_roundw
        case rel=>exact ⟨k+1,by omega,by go_num,hb,R0,RY2⟩
        case measure=>simp[intOf];omega
      obtain ⟨z,hzl,hz,_⟩:=HVW.out j hjl
      have hjn:j<l.length:=by rw[HLN1.out];exact hjl
      have q1:=HFI.out.idx hjn
      have cl0:=HFI.out.cellN hjn
      rw[hz]at cl0
      have bl0:=World.block_lt_of_cell? _ _ cl0
      have cl:=cell_ext cl0 hb
      have bl:=World.block_lt_of_cell? _ _ cl
      have q2:=idx_yes (w.heap.size+1) s.tab.length s.tab.length z hzl
      have cy:=RY.cell (j:=z) (yesRow_get hzl)
      have fy:=RY.free z
      have ly:=RY.lt
      have HST:=Lib.hid fun v=>yesIn_succ s N K k j v
      have HRJ:Hid (∀v:Nat,relE s N K v k j=((z:Int)==(v:Int)&&m.testBit j)):=Lib.hid fun v=>by rw[HRE.out,hz]
      clear cl0 hz hjn
      obtain ⟨bt,hbt⟩:∃bt,bt=m.testBit j:=⟨_,rfl⟩
      rw[←hbt]at HRJ
      have hN2:(j:Int)<64:=by omega
      cases bt with
      | false=>
        have db:(bits .and .i64 ((m:Int) / 2 ^ j) 1==1)=false:=by rw[bit_nat];exact hbt.symm
        have RY2:=RY.get (show yesRow (yesIn s N K k j) s.tab.length=yesRow (yesIn s N K k (j+1)) s.tab.length from yesRow_congr fun i _=>by rw[HST.out,HRJ.out,Bool.and_false,Bool.or_false])
        clear RY hbt cy fy
        go_wp2
        go_roundw
        case rel=>exact ⟨j+1,by omega,by go_num,hb,hA,R0,RY2⟩
        case measure=>simp[intOf];omega
      | true=>
        have db:(bits .and .i64 ((m:Int) / 2 ^ j) 1==1)=true:=by rw[bit_nat];exact hbt.symm
        have hset:=grownBy_setCell wr (w.heap.size+1) z (.bool true)
        have RY2:=(RY.set z (.bool true)).get (show _=yesRow (yesIn s N K k (j+1)) s.tab.length by rw[yesRow_set hzl];exact yesRow_congr fun i _=>by rw[HST.out,HRJ.out,Bool.and_true];congr 1;rw[Bool.eq_iff_iff];simp;omega)
        have R02:=R0.grown hset (by simp)
        have hA2:=hA.trans (Agree.of_grown (S:=fun b=>b≠w.heap.size+1) hset fun b hb e=>hb (by injection e with e;exact e.symm))
        have hb2:=hb.setCell (p:=⟨w.heap.size+1,z,none⟩) (by simp) (.bool true)
        clear hbt RY R0 hA hb hset
        go_wp2
        go_roundw
        case rel=>exact ⟨j+1,by omega,by go_num,hb2,hA2,R02,RY2⟩
        case measure=>simp[intOf];omega
def RelR (B:Nat) (s:SysF) (w':World) (r:Value):Prop:=(verE s=0∧(∃u,r=.tuple #[u,.int .i64 0]∧Ints (fun b=>B≤b) w' u (decL s s.N s.K)))∨(verE s≠0∧r=.tuple #[.slice none 0 0,.int .i64 (verE s)])
theorem pRelevant_calls {S:Nat→Prop} {w:World} {v:Value} {s:SysF} (h:SysV S w v s) (hf:PFew s.p) (hl:s.tab.length≤100000):
    Calls Tryz.prog 25 #[v] w (Post w (RelR w.heap.size s)):=by
  have KV:Hid (∀W,Below w.heap.size w W→Calls Tryz.prog 44 #[v] W (Post W fun _ r=>r=.int .i64 (verE s))):=Lib.hid fun W hW=>pverify_calls (h.ext hW) hf
  have KD:Hid (verE s=0→∀W,Below w.heap.size w W→Calls Tryz.prog 56 #[v,.func (.func 57) #[] #[]] W (Post W fun w' r=>Ints (fun b=>W.heap.size≤b) w' r (decL s s.N s.K))):=Lib.hid fun h0 W hW=>prelevant_calls (h.ext hW) (good_sys h0 h.moves8) hl
  obtain ⟨vc,vs,vt,vx,rfl,hc,hs,ht,hx⟩:=h
  obtain ⟨ca,cc,rfl,_⟩:=hc.form
  obtain ⟨sa,sc,rfl,_⟩:=hs.form
  obtain ⟨ta,tc,rfl,_⟩:=ht.form
  obtain ⟨xa,xc,rfl,xad,_⟩:=hx.form2
  have ex:=ext_alloc w (.cells #[.int .i64 s.p.n,.int .i64 s.p.ins,.int .i64 s.p.outs,.slice ca s.p.cs.length cc,.int .i64 s.p.an,.slice sa s.p.st.length sc,.int .i64 s.p.rounds,.int .i64 s.tn,.slice ta s.tab.length tc,.slice xa s.ex.length xc] 35)
  have R0:=row_new w [.int .i64 s.p.n,.int .i64 s.p.ins,.int .i64 s.p.outs,.slice ca s.p.cs.length cc,.int .i64 s.p.an,.slice sa s.p.st.length sc,.int .i64 s.p.rounds,.int .i64 s.tn,.slice ta s.tab.length tc,.slice xa s.ex.length xc] 35
  have t0:=R0.cell (j:=0) rfl
  have t1:=R0.cell (j:=1) rfl
  have t2:=R0.cell (j:=2) rfl
  have t3:=R0.cell (j:=3) rfl
  have t4:=R0.cell (j:=4) rfl
  have t5:=R0.cell (j:=5) rfl
  have t6:=R0.cell (j:=6) rfl
  have t7:=R0.cell (j:=7) rfl
  have t8:=R0.cell (j:=8) rfl
  have t9:=R0.cell (j:=9) rfl
  have l0:=R0.lt
  have HD:Hid (∀w' r,(verE s=0∧(∃u,r=.tuple #[u,.int .i64 0]∧Ints (fun b=>w.heap.size≤b) w' u (decL s s.N s.K)))∨(verE s≠0∧r=.tuple #[.slice none 0 0,.int .i64 (verE s)])→RelR w.heap.size s w' r):=Lib.hid fun w' r h=>h
  obtain ⟨ve,hve⟩:∃x,x=verE s:=⟨_,rfl⟩
  rw[←hve]at KV KD HD
  clear hc hs ht hx hf hve xad
  go_enter Tryz.func25,Tryz.ntmps25
  go_wp2_with fail
  refine (KV.out _ ex).mono ?_
  rintro _ w1 ⟨_,rfl,hb1,rfl⟩
  replace R0:=R0.ext hb1
  replace ex:=ext_trans ex hb1
  clear t0 t1 t2 t3 t4 t5 t6 t7 t8 t9 l0 hb1 KV
  by_cases hv0:ve=0
  case neg=>
    have d0:(ve !=0)=true:=by simp[hv0]
    have RE:=Lib.hid (HD.out w1 _ (.inr ⟨hv0,rfl⟩))
    clear hv0
    go_wp2
    go_ret2
    exact .mk ex RE.out
  subst hv0
  have KD2:=KD.out rfl
  have d0:((0:Int) !=0)=false:=rfl
  have t0:=R0.cell (j:=0) rfl
  have t1:=R0.cell (j:=1) rfl
  have t2:=R0.cell (j:=2) rfl
  have t3:=R0.cell (j:=3) rfl
  have t4:=R0.cell (j:=4) rfl
  have t5:=R0.cell (j:=5) rfl
  have t6:=R0.cell (j:=6) rfl
  have t7:=R0.cell (j:=7) rfl
  have t8:=R0.cell (j:=8) rfl
  have t9:=R0.cell (j:=9) rfl
  have l0:=R0.lt
  go_wp2_with fail
  refine (KD2 _ ex).mono ?_
  rintro _ w2 ⟨vo,rfl,hb2,ho⟩
  have hs1:=ex.size
  replace ex:=ext_trans ex hb2
  obtain ⟨oa,oc,rfl,_⟩:=ho.form
  have RE:=Lib.hid (HD.out w2 _ (.inl ⟨(by first | exact trivial | rfl),_,rfl,ho.mono (fun b hb=>by omega)⟩))
  clear t0 t1 t2 t3 t4 t5 t6 t7 t8 t9 l0 hb2 ho KD2 KD R0 d0
  go_wp2
  go_ret2
  exact .mk ex RE.out
end Go.Proofs.YtcopehiceihdaaaGreat
namespace Go.Proofs.YtcopehiceihdaaaGreat
open Go.RowKit
attribute [local go_sem ↓] Go.wp_at_zero Go.wp_at_succ
theorem zero_int1 (w:World):(zeroValue 3).run Tryz.prog w=.ok (.int .i64 0) w:=by kernel_rfl
noncomputable def keyN:KeyB Tryz.prog 3 Int:=intKey Tryz.underlying3
def mapI (m:Int→Option Int):Int→Option Value:=fun z=>(m z).map (Value.int .i64)
def newI (m:Int→Option Int) (x val:Int):Int:=match m x with
  | some old=>if old=val then val else -2
  | none=>val
def put1 (m:Int→Option Int) (x val:Int):Int→Option Int:=fun z=>if z=x then some (newI m x val) else m z
theorem mapI_put (m:Int→Option Int) (x val:Int):(fun z=>if z=x then some (Value.int .i64 (newI m x val)) else mapI m z)=mapI (put1 m x val):=by
  funext z
  unfold mapI put1
  split<;>rfl
def folL (m:Int→Option Int) (val:Int) (l:List Nat):Int→Option Int:=l.foldl (fun (m:Int→Option Int) (x:Nat)=>put1 m (x:Int) val) m
def folF (C FB SB:Nat):Value:=.func (.func 39) #[] #[.pointer (some ⟨C,0,none⟩),.pointer (some ⟨FB,0,none⟩),.pointer (some ⟨SB,0,none⟩)]
structure FolS (S:Nat→Prop) (C FB SB mb:Nat) (tn:Int) (ta:Option Addr) (tc:Nat) (T:List (List Int)) (w:World) (m:Int→Option Int) (n:Nat):Prop where
  cc:w.cell? ⟨C,0,none⟩=some (.map (some mb))
  cf:w.cell? ⟨FB,0,none⟩=some (folF C FB SB)
  c7:w.cell? ⟨SB,7,none⟩=some (.int .i64 tn)
  c8:w.cell? ⟨SB,8,none⟩=some (.slice ta T.length tc)
  mp:MapV keyN w mb (mapI m) n
  tb:Sl (kFlat 8) S w (.slice ta T.length tc) T
  sm:∀b,S b→b≠mb
  ne:C≠mb∧FB≠mb∧SB≠mb
theorem FolS.next {S:Nat→Prop} {C FB SB mb:Nat} {tn:Int} {ta:Option Addr} {tc:Nat} {T:List (List Int)} {w w':World} {m m':Int→Option Int} {n n':Nat} (h:FolS S C FB SB mb tn ta tc T w m n) (hw:Agree (fun b=>b≠mb) w w') (hm:MapV keyN w' mb (mapI m') n'):FolS S C FB SB mb tn ta tc T w' m' n':=
  ⟨cell_agree h.cc hw h.ne.1,cell_agree h.cf hw h.ne.2.1,cell_agree h.c7 hw h.ne.2.2,cell_agree h.c8 hw h.ne.2.2,hm,h.tb.agree (hw.mono h.sm),h.sm,h.ne⟩
theorem FolS.ext {S:Nat→Prop} {C FB SB mb:Nat} {tn:Int} {ta:Option Addr} {tc:Nat} {T:List (List Int)} {w w':World} {m:Int→Option Int} {n:Nat} (h:FolS S C FB SB mb tn ta tc T w m n) (hw:Below w.heap.size w w'):FolS S C FB SB mb tn ta tc T w' m n:=
  h.next (.of_ext hw) (h.mp.ext hw)
def FolP (B:Nat) (S:Nat→Prop) (C FB SB mb:Nat) (tn:Int) (ta:Option Addr) (tc:Nat) (T:List (List Int)) (w:World) (m':Int→Option Int) (N:Nat) (e:Ending) (W':World):Prop:=
  (∃v,e=.returned v)∧∃n',n'≤N∧FolS S C FB SB mb tn ta tc T W' m' n'∧Below B w W'∧Agree (fun b=>b≠mb) w W'
theorem fol_none (w:World) (val:Int) (C FB SB:Nat):Calls Tryz.prog 39 #[.int .i64 (-1),.int .i64 val,.pointer (some ⟨C,0,none⟩),.pointer (some ⟨FB,0,none⟩),.pointer (some ⟨SB,0,none⟩)] w fun e W'=>(∃v,e=.returned v)∧W'=w:=by
  have d0:decide ((-1:Int)<0)=true:=by decide
  go_enter Tryz.func39,Tryz.ntmps39
  go_wp2
  refine bodyPost_ret (results_none rfl _ _ _) rfl ?_
  exact ⟨⟨_,rfl⟩,rfl⟩
theorem fol_step {B C FB SB mb tc n v Nn N K:Nat} {S:Nat→Prop} {tn val x:Int} {ta:Option Addr} {T:List (List Int)} {w:World} {m m':Int→Option Int} (hs:FolS S C FB SB mb tn ta tc T w m n) (hT:TabOK N K T) (hv:v<T.length) (hvm:T.length≤100000) (hB:B≤mb) (hBw:B≤w.heap.size) (hn:n<10000000) (hval:WF val) (hx:befV T v=x)
    (KF:∀W n1,n1≤n+1→FolS S C FB SB mb tn ta tc T W (put1 m v val) n1→B≤W.heap.size→Calls Tryz.prog 39 #[.int .i64 x,.int .i64 val,.pointer (some ⟨C,0,none⟩),.pointer (some ⟨FB,0,none⟩),.pointer (some ⟨SB,0,none⟩)] W (FolP B S C FB SB mb tn ta tc T W m' Nn)):
    Calls Tryz.prog 39 #[.int .i64 v,.int .i64 val,.pointer (some ⟨C,0,none⟩),.pointer (some ⟨FB,0,none⟩),.pointer (some ⟨SB,0,none⟩)] w (FolP B S C FB SB mb tn ta tc T w m' Nn):=by
  have hM:=hs.mp
  have hwf:WF (v:Int):=wf_small (by omega)
  have d0:decide ((v:Int)<0)=false:=decide_eq_false (by omega)
  have HW:Hid (∀w2,MapV keyN w2 mb (fun z=>if z=(v:Int) then some (Value.int .i64 (newI m v val)) else mapI m z) (if (mapI m (v:Int)).isSome then n else n+1)→w.grownBy w2 (some mb)→
      Hid (∀W,Below w2.heap.size w2 W→Calls Tryz.prog 40 #[.agg #[.int .i64 tn,.slice ta T.length tc],.int .i64 v] W (Post W fun _ r=>r=.int .i64 x))∧
      Hid (∀W,Below w2.heap.size w2 W→Calls Tryz.prog 39 #[.int .i64 x,.int .i64 val,.pointer (some ⟨C,0,none⟩),.pointer (some ⟨FB,0,none⟩),.pointer (some ⟨SB,0,none⟩)] W (FolP B S C FB SB mb tn ta tc T W m' Nn))∧
      Hid (∀W,Below w2.heap.size w2 W→(fun w':World=>w'.cell? ⟨FB,0,none⟩=some (.func (.func 39) #[] #[.pointer (some ⟨C,0,none⟩),.pointer (some ⟨FB,0,none⟩),.pointer (some ⟨SB,0,none⟩)])∧w'.cell? ⟨SB,7,none⟩=some (.int .i64 tn)∧w'.cell? ⟨SB,8,none⟩=some (.slice ta T.length tc)) W)∧
      Hid (∀W W',Below w2.heap.size w2 W→(∃n',n'≤Nn∧FolS S C FB SB mb tn ta tc T W' m' n'∧Below B W W'∧Agree (fun b=>b≠mb) W W')→∃n',n'≤Nn∧FolS S C FB SB mb tn ta tc T W' m' n'∧Below B w W'∧Agree (fun b=>b≠mb) w W')):=Lib.hid fun w2 h2 hg=>by
    rw[mapI_put]at h2
    have hA:Agree (fun b=>b≠mb) w w2:=.of_grown hg fun b hb e=>hb (by injection e with e;exact e.symm)
    have hS2:=hs.next hA h2
    have hbw:Below B w w2:=(Below.refl B w).grown hg hBw (fun k hk=>by cases hk;exact hB)
    refine ⟨Lib.hid fun W hW=>by rw[←hx];exact pbefore_calls tn (hS2.tb.ext hW) hT hv,Lib.hid fun W hW=>KF W _ (by split<;>omega) (hS2.ext hW) (by have:=hbw.size;have:=hW.size;omega),Lib.hid fun W hW=>⟨(hS2.ext hW).cf,(hS2.ext hW).c7,(hS2.ext hW).c8⟩,Lib.hid fun W W' hW h=>?_⟩
    obtain ⟨n',h1,h2,h3,h4⟩:=h
    exact ⟨n',h1,h2,(hbw.trans (hW.mono (by have:=hg.size;omega))).trans h3,(hA.trans (.of_ext hW)).trans h4⟩
  have cc:=hs.cc
  have cf:w.cell? ⟨FB,0,none⟩=some (.func (.func 39) #[] #[.pointer (some ⟨C,0,none⟩),.pointer (some ⟨FB,0,none⟩),.pointer (some ⟨SB,0,none⟩)]):=hs.cf
  have c7:=hs.c7
  have c8:=hs.c8
  have HNV:Hid (newI m v val=match m v with | some old=>if old=val then val else -2 | none=>val):=Lib.hid rfl
  have HMV:Hid (mapI m v=(m v).map (Value.int .i64)):=Lib.hid rfl
  obtain ⟨nv,hnv⟩:∃nv,nv=newI m v val:=⟨_,rfl⟩
  rw[←hnv]at HW HNV
  obtain ⟨y,hy⟩:∃y,y=m v:=⟨_,rfl⟩
  rw[←hy]at HNV HMV
  clear KF hs hT hx hnv hy
  cases y with
  | none=>
    have hmiss:Hid (mapI m v=none):=Lib.hid (by rw[HMV.out];rfl)
    have HN2:Hid (nv=val):=Lib.hid HNV.out
    have hnn:=HN2.out
    subst hnn
    clear HNV HMV
    go_enter Tryz.func39,Tryz.ntmps39
    go_wp2_with (first
      | (at_lookup;refine wpList_miss rfl _ _ 95 rfl 3 Tryz.underlying95 (.int .i64 0) (zero_int1 _) rfl hM (v:Int) rfl hwf hmiss.out ?_)
      | (at_mapUpdate;refine wpList_upd rfl _ _ _ 95 rfl 3 Tryz.underlying95 rfl hM (by unfold maxLen;omega) (v:Int) rfl hwf (.int .i64 nv) rfl ?_;intro w2 hM2 hg2))
    obtain ⟨KB,KF2,KEEP,FIN⟩:=HW.out w2 hM2 hg2
    clear HW hM2 hg2 c7 c8 cf cc hM
    go_wp2
    refine region_E (fun w':World=>w'.cell? ⟨FB,0,none⟩=some (.func (.func 39) #[] #[.pointer (some ⟨C,0,none⟩),.pointer (some ⟨FB,0,none⟩),.pointer (some ⟨SB,0,none⟩)])∧w'.cell? ⟨SB,7,none⟩=some (.int .i64 tn)∧w'.cell? ⟨SB,8,none⟩=some (.slice ta T.length tc)) (fun i=>i==6) (by kernel_rfl) ?_ (fun hHeld=>?_)
    · exact KEEP.out _ (drewN_below _ _ 1)
    refine anyE_takeT 0 (v:=?_) rfl (by kernel_rfl) (fun _ _ _ h=>h) (by rfl) ?hy0a hHeld ?rest0a
    case hy0a=>(intro w hSw;(try dsimp only at hSw);go_simp;try with_reducible rfl)
    try simp only[Act.put,zsa,zsz,zss]
    refine anyE_takeT 1 (v:=?_) rfl (by kernel_rfl) (fun _ _ _ h=>h) (by rfl) ?hy1a hHeld ?rest1a
    case hy1a=>(intro w hSw;(try dsimp only at hSw);go_simp;try with_reducible rfl)
    try simp only[Act.put,zsa,zsz,zss]
    refine anyE_takeT 2 (v:=?_) rfl (by kernel_rfl) (fun _ _ _ h=>h) (by rfl) ?hy2a hHeld ?rest2a
    case hy2a=>(intro w hSw;(try dsimp only at hSw);go_simp;try with_reducible rfl)
    try simp only[Act.put,zsa,zsz,zss]
    refine anyE_takeT 3 (v:=?_) rfl (by kernel_rfl) (fun _ _ _ h=>h) (by rfl) ?hy3a hHeld ?rest3a
    case hy3a=>(intro w hSw;(try dsimp only at hSw);go_simp;try with_reducible rfl)
    try simp only[Act.put,zsa,zsz,zss]
    refine anyE_takeT 5 (v:=?_) rfl (by kernel_rfl) (fun _ _ _ h=>h) (by rfl) ?hy5a hHeld ?rest5a
    case hy5a=>(intro w hSw;(try dsimp only at hSw);go_simp;try with_reducible rfl)
    try simp only[Act.put,zsa,zsz,zss]
    refine anyE_one 4 rfl (by kernel_rfl) (fun K hK=>?_)
    (go_simp;go_at_call 40;refine (KB.out _ (drewN_below _ _ 1)).mono ?_;rintro _ w3 ⟨_,rfl,hb3,rfl⟩;have y3:=ext_trans (drewN_below _ _ 1) hb3;clear hb3)
    refine hK.out _ _ (fun _=>KEEP.out _ y3) (fun hHeld=>?_);replace hHeld:=hHeld rfl
    clear hK K
    try simp only[Act.put,zsa,zsz,zss]
    refine anyE_one 6 rfl (by kernel_rfl) (fun K hK=>?_)
    (go_simp;go_at_call 39;refine (KF2.out _ y3).mono ?_;rintro _ w4 ⟨⟨rv,rfl⟩,hfp2⟩)
    refine hK.out _ _ (fun h=>by simp at h) (fun hHeld=>?_)
    clear hK K
    try simp only[Act.put,zsa,zsz,zss]
    refine anyE_done (by kernel_rfl) ?_ _
    have HFP:=Lib.hid (FIN.out _ _ y3 hfp2)
    clear hfp2 hHeld FIN KB KF2 KEEP y3
    go_wp2
    go_end0
    exact ⟨⟨_,rfl⟩,HFP.out⟩
  | some old=>
    have hhit:Hid (mapI m v=some (.int .i64 old)):=Lib.hid (by rw[HMV.out];rfl)
    by_cases ho:old=val
    · have HN2:Hid (nv=val):=Lib.hid (by rw[HNV.out];exact if_pos ho)
      have d1:(old !=val)=false:=by simp[ho]
      have hnn:=HN2.out
      subst hnn
      clear HNV HMV ho
      go_enter Tryz.func39,Tryz.ntmps39
      go_wp2_with (first
        | (at_lookup;refine wpList_hit rfl _ _ 95 rfl 3 Tryz.underlying95 (.int .i64 0) (zero_int1 _) rfl hM (v:Int) rfl hwf (.int .i64 old) hhit.out ?_)
        | (at_mapUpdate;refine wpList_upd rfl _ _ _ 95 rfl 3 Tryz.underlying95 rfl hM (by unfold maxLen;omega) (v:Int) rfl hwf (.int .i64 nv) rfl ?_;intro w2 hM2 hg2))
      obtain ⟨KB,KF2,KEEP,FIN⟩:=HW.out w2 hM2 hg2
      clear HW hM2 hg2 c7 c8 cf cc hM
      go_wp2
      refine region_E (fun w':World=>w'.cell? ⟨FB,0,none⟩=some (.func (.func 39) #[] #[.pointer (some ⟨C,0,none⟩),.pointer (some ⟨FB,0,none⟩),.pointer (some ⟨SB,0,none⟩)])∧w'.cell? ⟨SB,7,none⟩=some (.int .i64 tn)∧w'.cell? ⟨SB,8,none⟩=some (.slice ta T.length tc)) (fun i=>i==6) (by kernel_rfl) ?_ (fun hHeld=>?_)
      · exact KEEP.out _ (drewN_below _ _ 1)
      refine anyE_takeT 0 (v:=?_) rfl (by kernel_rfl) (fun _ _ _ h=>h) (by rfl) ?hy0b hHeld ?rest0b
      case hy0b=>(intro w hSw;(try dsimp only at hSw);go_simp;try with_reducible rfl)
      try simp only[Act.put,zsa,zsz,zss]
      refine anyE_takeT 1 (v:=?_) rfl (by kernel_rfl) (fun _ _ _ h=>h) (by rfl) ?hy1b hHeld ?rest1b
      case hy1b=>(intro w hSw;(try dsimp only at hSw);go_simp;try with_reducible rfl)
      try simp only[Act.put,zsa,zsz,zss]
      refine anyE_takeT 2 (v:=?_) rfl (by kernel_rfl) (fun _ _ _ h=>h) (by rfl) ?hy2b hHeld ?rest2b
      case hy2b=>(intro w hSw;(try dsimp only at hSw);go_simp;try with_reducible rfl)
      try simp only[Act.put,zsa,zsz,zss]
      refine anyE_takeT 3 (v:=?_) rfl (by kernel_rfl) (fun _ _ _ h=>h) (by rfl) ?hy3b hHeld ?rest3b
      case hy3b=>(intro w hSw;(try dsimp only at hSw);go_simp;try with_reducible rfl)
      try simp only[Act.put,zsa,zsz,zss]
      refine anyE_takeT 5 (v:=?_) rfl (by kernel_rfl) (fun _ _ _ h=>h) (by rfl) ?hy5b hHeld ?rest5b
      case hy5b=>(intro w hSw;(try dsimp only at hSw);go_simp;try with_reducible rfl)
      try simp only[Act.put,zsa,zsz,zss]
      refine anyE_one 4 rfl (by kernel_rfl) (fun K hK=>?_)
      (go_simp;go_at_call 40;refine (KB.out _ (drewN_below _ _ 1)).mono ?_;rintro _ w3 ⟨_,rfl,hb3,rfl⟩;have y3:=ext_trans (drewN_below _ _ 1) hb3;clear hb3)
      refine hK.out _ _ (fun _=>KEEP.out _ y3) (fun hHeld=>?_);replace hHeld:=hHeld rfl
      clear hK K
      try simp only[Act.put,zsa,zsz,zss]
      refine anyE_one 6 rfl (by kernel_rfl) (fun K hK=>?_)
      (go_simp;go_at_call 39;refine (KF2.out _ y3).mono ?_;rintro _ w4 ⟨⟨rv,rfl⟩,hfp2⟩)
      refine hK.out _ _ (fun h=>by simp at h) (fun hHeld=>?_)
      clear hK K
      try simp only[Act.put,zsa,zsz,zss]
      refine anyE_done (by kernel_rfl) ?_ _
      have HFP:=Lib.hid (FIN.out _ _ y3 hfp2)
      clear hfp2 hHeld FIN KB KF2 KEEP y3
      go_wp2
      go_end0
      exact ⟨⟨_,rfl⟩,HFP.out⟩
    · have HN2:Hid (nv= -2):=Lib.hid (by rw[HNV.out];exact if_neg ho)
      have d1:(old !=val)=true:=by simp[ho]
      have hnn:=HN2.out
      subst hnn
      clear HNV HMV ho
      go_enter Tryz.func39,Tryz.ntmps39
      go_wp2_with (first
        | (at_lookup;refine wpList_hit rfl _ _ 95 rfl 3 Tryz.underlying95 (.int .i64 0) (zero_int1 _) rfl hM (v:Int) rfl hwf (.int .i64 old) hhit.out ?_)
        | (at_mapUpdate;refine wpList_upd rfl _ _ _ 95 rfl 3 Tryz.underlying95 rfl hM (by unfold maxLen;omega) (v:Int) rfl hwf (.int .i64 (-2)) rfl ?_;intro w2 hM2 hg2))
      obtain ⟨KB,KF2,KEEP,FIN⟩:=HW.out w2 hM2 hg2
      clear HW hM2 hg2 c7 c8 cf cc hM
      go_wp2
      refine region_E (fun w':World=>w'.cell? ⟨FB,0,none⟩=some (.func (.func 39) #[] #[.pointer (some ⟨C,0,none⟩),.pointer (some ⟨FB,0,none⟩),.pointer (some ⟨SB,0,none⟩)])∧w'.cell? ⟨SB,7,none⟩=some (.int .i64 tn)∧w'.cell? ⟨SB,8,none⟩=some (.slice ta T.length tc)) (fun i=>i==6) (by kernel_rfl) ?_ (fun hHeld=>?_)
      · exact KEEP.out _ (drewN_below _ _ 1)
      refine anyE_takeT 0 (v:=?_) rfl (by kernel_rfl) (fun _ _ _ h=>h) (by rfl) ?hy0c hHeld ?rest0c
      case hy0c=>(intro w hSw;(try dsimp only at hSw);go_simp;try with_reducible rfl)
      try simp only[Act.put,zsa,zsz,zss]
      refine anyE_takeT 1 (v:=?_) rfl (by kernel_rfl) (fun _ _ _ h=>h) (by rfl) ?hy1c hHeld ?rest1c
      case hy1c=>(intro w hSw;(try dsimp only at hSw);go_simp;try with_reducible rfl)
      try simp only[Act.put,zsa,zsz,zss]
      refine anyE_takeT 2 (v:=?_) rfl (by kernel_rfl) (fun _ _ _ h=>h) (by rfl) ?hy2c hHeld ?rest2c
      case hy2c=>(intro w hSw;(try dsimp only at hSw);go_simp;try with_reducible rfl)
      try simp only[Act.put,zsa,zsz,zss]
      refine anyE_takeT 3 (v:=?_) rfl (by kernel_rfl) (fun _ _ _ h=>h) (by rfl) ?hy3c hHeld ?rest3c
      case hy3c=>(intro w hSw;(try dsimp only at hSw);go_simp;try with_reducible rfl)
      try simp only[Act.put,zsa,zsz,zss]
      refine anyE_takeT 5 (v:=?_) rfl (by kernel_rfl) (fun _ _ _ h=>h) (by rfl) ?hy5c hHeld ?rest5c
      case hy5c=>(intro w hSw;(try dsimp only at hSw);go_simp;try with_reducible rfl)
      try simp only[Act.put,zsa,zsz,zss]
      refine anyE_one 4 rfl (by kernel_rfl) (fun K hK=>?_)
      (go_simp;go_at_call 40;refine (KB.out _ (drewN_below _ _ 1)).mono ?_;rintro _ w3 ⟨_,rfl,hb3,rfl⟩;have y3:=ext_trans (drewN_below _ _ 1) hb3;clear hb3)
      refine hK.out _ _ (fun _=>KEEP.out _ y3) (fun hHeld=>?_);replace hHeld:=hHeld rfl
      clear hK K
      try simp only[Act.put,zsa,zsz,zss]
      refine anyE_one 6 rfl (by kernel_rfl) (fun K hK=>?_)
      (go_simp;go_at_call 39;refine (KF2.out _ y3).mono ?_;rintro _ w4 ⟨⟨rv,rfl⟩,hfp2⟩)
      refine hK.out _ _ (fun h=>by simp at h) (fun hHeld=>?_)
      clear hK K
      try simp only[Act.put,zsa,zsz,zss]
      refine anyE_done (by kernel_rfl) ?_ _
      have HFP:=Lib.hid (FIN.out _ _ y3 hfp2)
      clear hfp2 hHeld FIN KB KF2 KEEP y3
      go_wp2
      go_end0
      exact ⟨⟨_,rfl⟩,HFP.out⟩
end Go.Proofs.YtcopehiceihdaaaGreat
