/- Part of the proof that the laws of chapter 45 answer true for every input. -/
import Derived.Test.YtcopehiceihdaaaGreatPCh45
import Derived.Deep.AppendLies
set_option linter.unusedSimpArgs false
set_option linter.unnecessarySimpa false
set_option linter.unusedVariables false
set_option maxRecDepth 100000
set_option maxHeartbeats 40000000
namespace Go.Proofs.YtcopehiceihdaaaGreat
open Go.RowKit
attribute [local go_sem ↓] Go.wp_at_zero Go.wp_at_succ
def kU8:Kd Int where
  size:=1
  rd:=fun _ _ cs x=>cs=[.int .u8 x]∧0≤x∧x<256
  agree:=fun h _=>h
  mono:=fun h _=>h
  block:=fun h=>h
  len:=fun h=>by rw[h.1];rfl
  one:=fun h u hu=>by rw[h.1,List.mem_singleton]at hu;subst hu;rfl
theorem info_byte:(Tryz.prog.info? 5).map (fun i=>(i.zero,i.size,i.bytes))=some (some (.int .u8 0),1,1):=by kernel_rfl
def choN (outs:Int) (l:List Int) (v:Nat):Int:=(if l.length=0 then 0 else nth l (v % l.length)) % outs
def choTo (outs:Int) (l:List Int) (k:Nat):List Int:=(List.range k).map (choN outs l)
theorem choTo_len (outs:Int) (l:List Int) (k:Nat):(choTo outs l k).length=k:=by simp[choTo]
theorem choTo_succ (outs:Int) (l:List Int) (k:Nat):choTo outs l (k+1)=choTo outs l k++[choN outs l k]:=by unfold choTo;rw[List.range_succ,List.map_append];rfl
theorem choTo_at (outs:Int) (l:List Int) {k v:Nat} (h:v<k):nth (choTo outs l k) v=choN outs l v:=by unfold choTo;simp[nth,h]
theorem choN_bound {outs:Int} (h:1≤outs) (l:List Int) (v:Nat):0≤choN outs l v∧choN outs l v<outs:=⟨Int.emod_nonneg _ (by omega),Int.emod_lt_of_pos _ (by omega)⟩
theorem choTo_wf {outs:Int} (h:1≤outs∧outs≤8) (l:List Int) (k:Nat):∀x∈choTo outs l k,WF x:=fun x hx=>by
  unfold choTo at hx
  obtain ⟨v,_,rfl⟩:=List.mem_map.1 hx
  have:=choN_bound h.1 l v
  exact wf_small (by omega)
theorem choice_calls {S S2:Nat→Prop} {w:World} {v vb:Value} {s:SysF} {l:List Int} (h:SysV S w v s) (h2:Sl kU8 S2 w vb l) (ho:1≤s.p.outs∧s.p.outs≤8) (hl:s.tab.length≤100000) (hbl:l.length≤100000):
    Calls Tryz.prog 24 #[v,vb] w (Post w fun w' r=>RuleV (fun b=>w.heap.size≤b) w' r (choTo s.p.outs l s.tab.length)):=by
  obtain ⟨vc,vs,vt,vx,rfl,hc,hs,ht,hx⟩:=h
  obtain ⟨ca,cc,rfl,_⟩:=hc.form
  obtain ⟨sa,sc,rfl,_⟩:=hs.form
  obtain ⟨ta,tc,rfl,_⟩:=ht.form
  obtain ⟨xa,xc,rfl,_⟩:=hx.form
  obtain ⟨ba,bc,rfl,bad,_⟩:=h2.form
  obtain ⟨i8,hi8,_,hz8,_⟩:=info_parts info_byte
  have HQ:=Lib.hid (idx_one Tryz.underlying59 hi8 hz8 bad)
  obtain ⟨i0,hi,hz0,hz1,hz2⟩:=info_parts info_int
  have HB:=Lib.hid h2
  have HPO:Hid (∀w' rv,Below w.heap.size w w'→Cnts (w.heap.size+1+1+1) w' rv (choTo s.p.outs l s.tab.length)→Post w (fun w' r=>RuleV (fun b=>w.heap.size≤b) w' r (choTo s.p.outs l s.tab.length)) (.returned (.agg #[rv])) w'):=Lib.hid fun w' rv h1 h3=>.mk h1 ⟨rv,rfl,(h3.read (choTo_wf ho l _)).mono fun b hb=>by omega⟩
  have HSU:Hid (∀k,choTo s.p.outs l (k+1)=choTo s.p.outs l k++[choN s.p.outs l k]):=Lib.hid fun k=>choTo_succ _ _ _
  have HCN:Hid (∀k x,(if l.length=0 then 0 else nth l (k % l.length))=x→choN s.p.outs l k=x % s.p.outs):=Lib.hid fun k x hx=>by unfold choN;rw[hx]
  have ex:=ext_alloc' (ext_alloc' (ext_alloc w (.cells #[.int .i64 s.p.n,.int .i64 s.p.ins,.int .i64 s.p.outs,.slice ca s.p.cs.length cc,.int .i64 s.p.an,.slice sa s.p.st.length sc,.int .i64 s.p.rounds,.int .i64 s.tn,.slice ta s.tab.length tc,.slice xa s.ex.length xc] 35)) (.cells #[.slice none 0 0] 38)) (.cells #[.slice none 0 0] 38)
  have R0:=((row_new w [.int .i64 s.p.n,.int .i64 s.p.ins,.int .i64 s.p.outs,.slice ca s.p.cs.length cc,.int .i64 s.p.an,.slice sa s.p.st.length sc,.int .i64 s.p.rounds,.int .i64 s.tn,.slice ta s.tab.length tc,.slice xa s.ex.length xc] 35).alloc (.cells #[.slice none 0 0] 38)).alloc (.cells #[.slice none 0 0] 38)
  have R1:=(row_new (w.alloc (.cells #[.int .i64 s.p.n,.int .i64 s.p.ins,.int .i64 s.p.outs,.slice ca s.p.cs.length cc,.int .i64 s.p.an,.slice sa s.p.st.length sc,.int .i64 s.p.rounds,.int .i64 s.tn,.slice ta s.tab.length tc,.slice xa s.ex.length xc] 35)) [.slice none 0 0] 38).alloc (.cells #[.slice none 0 0] 38)
  have R2:=row_new ((w.alloc (.cells #[.int .i64 s.p.n,.int .i64 s.p.ins,.int .i64 s.p.outs,.slice ca s.p.cs.length cc,.int .i64 s.p.an,.slice sa s.p.st.length sc,.int .i64 s.p.rounds,.int .i64 s.tn,.slice ta s.tab.length tc,.slice xa s.ex.length xc] 35)).alloc (.cells #[.slice none 0 0] 38)) [.slice none 0 0] 38
  simp only[World.size_alloc]at R1 R2
  clear hc hs ht hx h2 bad
  have t8:=R0.cell (j:=8) rfl
  have l0:=R0.lt
  go_enter Tryz.func24,Tryz.ntmps24
  go_wp2
  clear t8 l0
  go_loopw [6,7,12] (fun _ _ i wr=>∃(k:Nat) (rv:Value),k≤s.tab.length∧i=.int .i64 k∧Below w.heap.size w wr∧Row wr w.heap.size 35 [.int .i64 s.p.n,.int .i64 s.p.ins,.int .i64 s.p.outs,.slice ca s.p.cs.length cc,.int .i64 s.p.an,.slice sa s.p.st.length sc,.int .i64 s.p.rounds,.int .i64 s.tn,.slice ta s.tab.length tc,.slice xa s.ex.length xc]∧Row wr (w.heap.size+1) 38 [.slice none 0 0]∧Row wr (w.heap.size+1+1) 38 [rv]∧Hid (Cnts (w.heap.size+1+1+1) wr rv (choTo s.p.outs l k))∧w.heap.size+1+1<wr.heap.size) (fun _ _ i _=>s.tab.length - (intOf i).toNat)
  case atStart=>exact ⟨0,_,Nat.zero_le _,rfl,ex,R0,R1,R2,Lib.hid (World.ownsRow_nil _ _ _ _),by simp⟩
  case round=>
    clear ex R0 R1 R2
    obtain ⟨k,rv,hk,rfl,hb,R0,R1,R2,hO,hws⟩:=hrel
    by_cases hlt:k<s.tab.length
    case neg=>
      obtain rfl:k=s.tab.length:=by omega
      obtain ⟨ra,rc,rfl,_⟩:=(hO.out.read (choTo_wf ho l _)).form
      have q2:=R2.cell (j:=0) rfl
      have q1:=R1.cell (j:=0) rfl
      have f1:=R1.free 0
      have l1:=R1.lt
      have l2:=R2.lt
      have hset:=grownBy_setCell wr (w.heap.size+1) 0 (.slice ra (choTo s.p.outs l s.tab.length).length rc)
      have hO2:Cnts (w.heap.size+1+1+1) (wr.setCell ⟨w.heap.size+1,0,none⟩ (.slice ra (choTo s.p.outs l s.tab.length).length rc)) (.slice ra (choTo s.p.outs l s.tab.length).length rc) (choTo s.p.outs l s.tab.length):=owns_agree hO.out (Agree.of_grown (S:=fun b=>w.heap.size+1+1+1≤b) hset fun b hb e=>by injection e with e;omega) fun g hg=>(hO.out.lt g hg).1
      have HE:=Lib.hid (HPO.out _ (.slice ra (choTo s.p.outs l s.tab.length).length rc) (hb.setCell (p:=⟨w.heap.size+1,0,none⟩) (by dsimp only;omega) (.slice ra (choTo s.p.outs l s.tab.length).length rc)) hO2)
      have P1:=(R1.set 0 (.slice ra (choTo s.p.outs l s.tab.length).length rc)).cell (j:=0) rfl
      clear hset hO2 hO R1 R2 R0
      go_wp2
      refine bodyPost_ret (v:=.agg #[.slice ra (choTo s.p.outs l s.tab.length).length rc]) (by simp[results,Tryz.results24,go_sem,P1]) rfl ?_
      exact HE.out
    have hmx:(if 1<s.p.outs then s.p.outs else 1)=s.p.outs:=by split<;>omega
    have ho0:¬s.p.outs=0:=by omega
    obtain ⟨ls,hls⟩:∃ls,ls=choTo s.p.outs l k:=⟨_,rfl⟩
    obtain ⟨m,hm⟩:∃m,m=ls.length:=⟨_,rfl⟩
    have hmk:m≤100000:=by rw[hm,hls,choTo_len];omega
    have HSU2:=Lib.hid (HSU.out k)
    rw[←hls]at hO HSU2
    have HOW:Hid (wr.drew.ownsRow (w.heap.size+1+1+1) 3 1 rv m (ls.map (Value.int .i64))):=Lib.hid (by rw[hm];exact owns_ext hO.out (drewN_below _ _ 1))
    have B1:=Lib.hid (show m+1≤maxLen by unfold maxLen;omega)
    have B2:=Lib.hid (show (m+1) * 8≤140737488355328 by omega)
    have HOLT:=Lib.hid hO.out.lt
    have HNE:=Lib.hid (show rv.ownBlock≠some (w.heap.size+1+1) from fun h=>by have:=(HOLT.out _ h).1;omega)
    have HOWN:Hid (∀b,b<w.heap.size+1+1+1→rv.ownBlock≠some b):=Lib.hid (fun b hb h=>by have:=(HOLT.out _ h).1;omega)
    have q2:=R2.cell (j:=0) rfl
    have t2:=R0.cell (j:=2) rfl
    have KEEP:Hid (∀W',Agree (fun b=>b<w.heap.size+1+1+1) wr W'→(fun w':World=>w'.cell? ⟨w.heap.size,2,none⟩=some (.int .i64 s.p.outs)∧w'.cell? ⟨w.heap.size+1+1,0,none⟩=some rv) W'):=Lib.hid (fun W' hW'=>⟨cell_agree t2 hW' (by show _<_;simp;omega),cell_agree q2 hW' (by show _<_;simp)⟩)
    have hA0:Agree (fun b=>b<w.heap.size+1+1+1) wr wr:=.refl _ _
    have RC:=Lib.hid (R2.ext (drewN_below wr.heap.size wr 1))
    clear hls q2 t2
    have HM:=Lib.hid hm
    have HHL:=Lib.hid hlt
    clear hm
    have HFIN:Hid (∀y g6 cp6 w6,y=choN s.p.outs l k→w6.ownsRow (w.heap.size+1+1+1) 3 1 (.slice (some ⟨g6,0,none⟩) (m+1) cp6) (m+1) (ls.map (Value.int .i64)++[.int .i64 y])→(wr.drew.alloc (.cells #[.int .i64 y] 3)).grownBy w6 rv.ownBlock→
        Below w.heap.size w (w6.setCell ⟨w.heap.size+1+1,0,none⟩ (.slice (some ⟨g6,0,none⟩) (m+1) cp6))∧Row (w6.setCell ⟨w.heap.size+1+1,0,none⟩ (.slice (some ⟨g6,0,none⟩) (m+1) cp6)) w.heap.size 35 [.int .i64 s.p.n,.int .i64 s.p.ins,.int .i64 s.p.outs,.slice ca s.p.cs.length cc,.int .i64 s.p.an,.slice sa s.p.st.length sc,.int .i64 s.p.rounds,.int .i64 s.tn,.slice ta s.tab.length tc,.slice xa s.ex.length xc]∧Row (w6.setCell ⟨w.heap.size+1+1,0,none⟩ (.slice (some ⟨g6,0,none⟩) (m+1) cp6)) (w.heap.size+1) 38 [.slice none 0 0]∧Row (w6.setCell ⟨w.heap.size+1+1,0,none⟩ (.slice (some ⟨g6,0,none⟩) (m+1) cp6)) (w.heap.size+1+1) 38 [.slice (some ⟨g6,0,none⟩) (m+1) cp6]∧Hid (Cnts (w.heap.size+1+1+1) (w6.setCell ⟨w.heap.size+1+1,0,none⟩ (.slice (some ⟨g6,0,none⟩) (m+1) cp6)) (.slice (some ⟨g6,0,none⟩) (m+1) cp6) (choTo s.p.outs l (k+1)))∧w.heap.size+1+1<(w6.setCell ⟨w.heap.size+1+1,0,none⟩ (.slice (some ⟨g6,0,none⟩) (m+1) cp6)).heap.size):=Lib.hid fun y g6 cp6 w6 hy hown hgrow=>by
      have hset:=grownBy_setCell w6 (w.heap.size+1+1) 0 (.slice (some ⟨g6,0,none⟩) (m+1) cp6)
      have a1:Agree (fun b=>b<w.heap.size+1+1+1) wr w6:=(hA0.drew.alloc _).trans (.of_grown hgrow HOWN.out)
      have a2:Agree (fun b=>b<w.heap.size+1+1) w6 (w6.setCell ⟨w.heap.size+1+1,0,none⟩ (.slice (some ⟨g6,0,none⟩) (m+1) cp6)):=.of_grown hset fun b hb e=>by injection e with e;omega
      have a3:=(a1.mono (S':=fun b=>b<w.heap.size+1+1) fun b hb=>by omega).trans a2
      have hsz:=a1.size
      have hsz2:=a2.size
      have b1:Below w.heap.size wr (wr.drew.alloc (.cells #[.int .i64 y] 3)):=((drewN_below wr.heap.size wr 1).mono (by omega)).alloc (by simp;omega) _
      have b2:=(b1.grown hgrow (by simp;omega) fun g hg=>by have:=(HOLT.out g hg).1;omega).setCell (p:=⟨w.heap.size+1+1,0,none⟩) (by dsimp only;omega) (.slice (some ⟨g6,0,none⟩) (m+1) cp6)
      refine ⟨hb.trans b2,R0.agree a3 (by show _<_;omega),R1.agree a3 (by show _<_;omega),?_,Lib.hid ?_,by omega⟩
      · exact (R2.agree a1 (by show _<_;omega)).set 0 _
      · have h7:Cnts (w.heap.size+1+1+1) w6 (.slice (some ⟨g6,0,none⟩) (m+1) cp6) (choTo s.p.outs l (k+1)):=by
          rw[HSU2.out,←hy]
          unfold Cnts
          rw[List.length_append,List.length_singleton,←HM.out,List.map_append]
          exact hown
        exact owns_agree h7 (Agree.of_grown (S:=fun b=>w.heap.size+1+1+1≤b) hset fun b hb e=>by injection e with e;omega) fun g hg=>(h7.lt g hg).1
    by_cases hl0:l.length=0
    · have d0:decide ((0:Int)<(l.length:Int))=false:=by simp[hl0]
      have d3:¬0<l.length:=by omega
      have HY:Hid ((0:Int)=choN s.p.outs l k):=Lib.hid (by rw[HCN.out k 0 (by rw[if_pos hl0])];simp)
      clear hl0 HCN
      go_wp2
      refine region_E (fun w':World=>w'.cell? ⟨w.heap.size,2,none⟩=some (.int .i64 s.p.outs)∧w'.cell? ⟨w.heap.size+1+1,0,none⟩=some rv) (fun i=>i==12) (by kernel_rfl) ?_ (fun hHeld=>?_)
      · exact KEEP.out _ hA0.drew
      refine anyE_take 0 (v:=?_) rfl (by kernel_rfl) (fun _ _ _ h=>h) (by rfl) ?hy0a hHeld ?rest0a
      case hy0a=>(intro w hSw;(try dsimp only at hSw);go_simp;try with_reducible rfl)
      try simp only[Act.put,zsa,zsz,zss]
      refine anyE_take 1 (v:=?_) rfl (by kernel_rfl) (fun _ _ _ h=>h) (by rfl) ?hy1a hHeld ?rest1a
      case hy1a=>(intro w hSw;(try dsimp only at hSw);go_simp;try with_reducible rfl)
      try simp only[Act.put,zsa,zsz,zss]
      refine anyE_take 2 (v:=?_) rfl (by kernel_rfl) (fun _ _ _ h=>h) (by rfl) ?hy2a hHeld ?rest2a
      case hy2a=>(intro w hSw;(try dsimp only at hSw);go_simp;try with_reducible rfl)
      try simp only[Act.put,zsa,zsz,zss]
      refine anyE_take 3 (v:=?_) rfl (by kernel_rfl) (fun _ _ _ h=>h) (by rfl) ?hy3a hHeld ?rest3a
      case hy3a=>(intro w hSw;(try dsimp only at hSw);go_simp;try with_reducible rfl)
      try simp only[Act.put,zsa,zsz,zss]
      refine anyE_take 4 (v:=?_) rfl (by kernel_rfl) (fun _ _ _ h=>h) (by rfl) ?hy4a hHeld ?rest4a
      case hy4a=>(intro w hSw;(try dsimp only at hSw);go_simp;try with_reducible rfl)
      try simp only[Act.put,zsa,zsz,zss]
      refine anyE_take 5 (v:=?_) rfl (by kernel_rfl) (fun _ _ _ h=>h) (by rfl) ?hy5a hHeld ?rest5a
      case hy5a=>(intro w hSw;(try dsimp only at hSw);go_simp;try with_reducible rfl)
      try simp only[Act.put,zsa,zsz,zss]
      refine anyE_take 6 (v:=?_) rfl (by kernel_rfl) (fun _ _ _ h=>h) (by rfl) ?hy6a hHeld ?rest6a
      case hy6a=>(intro w hSw;(try dsimp only at hSw);go_simp;try with_reducible rfl)
      try simp only[Act.put,zsa,zsz,zss]
      refine anyE_take 7 (v:=?_) rfl (by kernel_rfl) (fun _ _ _ h=>h) (by rfl) ?hy7a hHeld ?rest7a
      case hy7a=>(intro w hSw;(try dsimp only at hSw);go_simp;try with_reducible rfl)
      try simp only[Act.put,zsa,zsz,zss]
      refine anyE_take 8 (v:=?_) rfl (by kernel_rfl) (fun _ _ _ h=>h) (by rfl) ?hy8a hHeld ?rest8a
      case hy8a=>(intro w hSw;(try dsimp only at hSw);go_simp;try with_reducible rfl)
      try simp only[Act.put,zsa,zsz,zss]
      refine anyE_one 9 rfl (by kernel_rfl) (fun K hK=>?_)
      go_simp
      refine hK.out _ _ (fun _=>KEEP.out _ (hA0.drew.alloc _)) (fun hHeld=>?_);replace hHeld:=hHeld rfl
      clear hK K
      try simp only[Act.put,zsa,zsz,zss]
      refine anyE_one 10 rfl (by kernel_rfl) (fun K hK=>?_)
      (refine step_append_lies _ (by rfl) _ _ _ (by rfl) (w.heap.size+1+1+1) 3 i0 _ 1 8 Tryz.underlying36 hi hz0 hz1 hz2 rfl (by decide) rv m (ls.map (Value.int .i64)) (by rfl) (HOW.out.alloc _) ⟨wr.drew.heap.size,0,none⟩ 1 1 [.int .i64 0] (by rfl) (by rfl) (World.news_of_block (cs:=#[.int .i64 0]) (t:=3) (fr:=(0,0)) (heap_alloc_new wr.drew _)) (by simp[Value.oneCell']) (by decide) B1.out B2.out (by simp;omega) (wr.drew.heap.size+1) (by simp) ?_;intro g6 cp6 w6 hown6 hgrow6 hat6 hlt6;have R6:=(RC.out.alloc (.cells #[.int .i64 0] 3)).grown hgrow6 HNE.out;have f6:=R6.free 0;have c6:=R6.cell (j:=0) rfl)
      refine hK.out _ _ (fun _=>KEEP.out _ ((hA0.drew.alloc _).trans (.of_grown hgrow6 HOWN.out))) (fun hHeld=>?_);replace hHeld:=hHeld rfl
      clear hK K
      try simp only[Act.put,zsa,zsz,zss]
      refine anyE_take 11 (v:=?_) rfl (by kernel_rfl) (fun _ _ _ h=>h) (by rfl) ?hy11a hHeld ?rest11a
      case hy11a=>(intro w hSw;(try dsimp only at hSw);go_simp;try with_reducible rfl)
      try simp only[Act.put,zsa,zsz,zss]
      refine anyE_one 12 rfl (by kernel_rfl) (fun K hK=>?_)
      go_simp
      refine hK.out _ _ (fun h=>by simp at h) (fun hHeld=>?_)
      clear hK K
      try simp only[Act.put,zsa,zsz,zss]
      refine anyE_done (by kernel_rfl) ?_ _
      obtain ⟨G1,G2,G3,G4,G5,G6⟩:=HFIN.out 0 g6 cp6 w6 HY.out hown6 hgrow6
      have hk1:=HHL.out
      clear hHeld KEEP hA0 RC HFIN HOWN HNE HOLT hown6 hgrow6 hat6 hlt6 R6 f6 c6 R0 R1 R2 hb
      go_wp2
      go_roundw
      case rel=>exact ⟨k+1,_,hk1,by go_num,G1,G2,G3,G4,G5,G6⟩
      case measure=>simp[intOf];omega
    · have d0:decide ((0:Int)<(l.length:Int))=true:=by simp;omega
      have d3:0<l.length:=by omega
      have hkm:k % l.length<l.length:=Nat.mod_lt _ d3
      have hkn:¬(l.length:Int)=0:=by omega
      have q:=HQ.out (k % l.length) hkm
      have em:((k % l.length:Nat):Int)=(k:Int) % (l.length:Int):=rfl
      simp only[em]at q
      clear em
      obtain ⟨cs,ccs,⟨hcs,b0,b1⟩,_⟩:=(HB.out.ext hb).at hkm
      have cu:=ccs 0 (by decide)
      subst hcs
      obtain ⟨n0,hn0⟩:∃n0:Int,n0=l[k % l.length]:=⟨_,rfl⟩
      rw[←hn0]at cu b0 b1
      replace cu:wr.cell? (adr ba (k % l.length))=some (.int .u8 n0):=by simpa[kU8] using cu
      have bu:=World.block_lt_of_cell? _ _ cu
      have dm:Int.tmod (k:Int) (l.length:Int)=((k % l.length:Nat):Int):=rfl
      have dz:((l.length:Int)==0)=false:=by rw[beq_eq_false_iff_ne];omega
      obtain ⟨y,hy⟩:∃y:Int,y=Int.tmod n0 s.p.outs:=⟨_,rfl⟩
      have HY:Hid (y=choN s.p.outs l k):=Lib.hid (by
        rw[HCN.out k n0 (by rw[if_neg hl0,hn0,nth_eq hkm]),hy]
        exact Int.tmod_eq_emod_of_nonneg b0)
      have d2:Int.tmod n0 s.p.outs=y:=hy.symm
      have d1:(s.p.outs==0)=false:=by simp;omega
      have d4:wrap64 n0=n0:=by unfold wrap64;omega
      clear hy hl0 HCN hn0 ccs
      go_wp2
      refine region_E (fun w':World=>w'.cell? ⟨w.heap.size,2,none⟩=some (.int .i64 s.p.outs)∧w'.cell? ⟨w.heap.size+1+1,0,none⟩=some rv) (fun i=>i==12) (by kernel_rfl) ?_ (fun hHeld=>?_)
      · exact KEEP.out _ hA0.drew
      refine anyE_take 0 (v:=?_) rfl (by kernel_rfl) (fun _ _ _ h=>h) (by rfl) ?hy0b hHeld ?rest0b
      case hy0b=>(intro w hSw;(try dsimp only at hSw);go_simp;try with_reducible rfl)
      try simp only[Act.put,zsa,zsz,zss]
      refine anyE_take 1 (v:=?_) rfl (by kernel_rfl) (fun _ _ _ h=>h) (by rfl) ?hy1b hHeld ?rest1b
      case hy1b=>(intro w hSw;(try dsimp only at hSw);go_simp;try with_reducible rfl)
      try simp only[Act.put,zsa,zsz,zss]
      refine anyE_take 2 (v:=?_) rfl (by kernel_rfl) (fun _ _ _ h=>h) (by rfl) ?hy2b hHeld ?rest2b
      case hy2b=>(intro w hSw;(try dsimp only at hSw);go_simp;try with_reducible rfl)
      try simp only[Act.put,zsa,zsz,zss]
      refine anyE_take 3 (v:=?_) rfl (by kernel_rfl) (fun _ _ _ h=>h) (by rfl) ?hy3b hHeld ?rest3b
      case hy3b=>(intro w hSw;(try dsimp only at hSw);go_simp;try with_reducible rfl)
      try simp only[Act.put,zsa,zsz,zss]
      refine anyE_take 4 (v:=?_) rfl (by kernel_rfl) (fun _ _ _ h=>h) (by rfl) ?hy4b hHeld ?rest4b
      case hy4b=>(intro w hSw;(try dsimp only at hSw);go_simp;try with_reducible rfl)
      try simp only[Act.put,zsa,zsz,zss]
      refine anyE_take 5 (v:=?_) rfl (by kernel_rfl) (fun _ _ _ h=>h) (by rfl) ?hy5b hHeld ?rest5b
      case hy5b=>(intro w hSw;(try dsimp only at hSw);go_simp;try with_reducible rfl)
      try simp only[Act.put,zsa,zsz,zss]
      refine anyE_take 6 (v:=?_) rfl (by kernel_rfl) (fun _ _ _ h=>h) (by rfl) ?hy6b hHeld ?rest6b
      case hy6b=>(intro w hSw;(try dsimp only at hSw);go_simp;try with_reducible rfl)
      try simp only[Act.put,zsa,zsz,zss]
      refine anyE_take 7 (v:=?_) rfl (by kernel_rfl) (fun _ _ _ h=>h) (by rfl) ?hy7b hHeld ?rest7b
      case hy7b=>(intro w hSw;(try dsimp only at hSw);go_simp;try with_reducible rfl)
      try simp only[Act.put,zsa,zsz,zss]
      refine anyE_take 8 (v:=?_) rfl (by kernel_rfl) (fun _ _ _ h=>h) (by rfl) ?hy8b hHeld ?rest8b
      case hy8b=>(intro w hSw;(try dsimp only at hSw);go_simp;try with_reducible rfl)
      try simp only[Act.put,zsa,zsz,zss]
      refine anyE_one 9 rfl (by kernel_rfl) (fun K hK=>?_)
      go_simp
      refine hK.out _ _ (fun _=>KEEP.out _ (hA0.drew.alloc _)) (fun hHeld=>?_);replace hHeld:=hHeld rfl
      clear hK K
      try simp only[Act.put,zsa,zsz,zss]
      refine anyE_one 10 rfl (by kernel_rfl) (fun K hK=>?_)
      (refine step_append_lies _ (by rfl) _ _ _ (by rfl) (w.heap.size+1+1+1) 3 i0 _ 1 8 Tryz.underlying36 hi hz0 hz1 hz2 rfl (by decide) rv m (ls.map (Value.int .i64)) (by rfl) (HOW.out.alloc _) ⟨wr.drew.heap.size,0,none⟩ 1 1 [.int .i64 y] (by rfl) (by rfl) (World.news_of_block (cs:=#[.int .i64 y]) (t:=3) (fr:=(0,0)) (heap_alloc_new wr.drew _)) (by simp[Value.oneCell']) (by decide) B1.out B2.out (by simp;omega) (wr.drew.heap.size+1) (by simp) ?_;intro g6 cp6 w6 hown6 hgrow6 hat6 hlt6;have R6:=(RC.out.alloc (.cells #[.int .i64 y] 3)).grown hgrow6 HNE.out;have f6:=R6.free 0;have c6:=R6.cell (j:=0) rfl)
      refine hK.out _ _ (fun _=>KEEP.out _ ((hA0.drew.alloc _).trans (.of_grown hgrow6 HOWN.out))) (fun hHeld=>?_);replace hHeld:=hHeld rfl
      clear hK K
      try simp only[Act.put,zsa,zsz,zss]
      refine anyE_take 11 (v:=?_) rfl (by kernel_rfl) (fun _ _ _ h=>h) (by rfl) ?hy11b hHeld ?rest11b
      case hy11b=>(intro w hSw;(try dsimp only at hSw);go_simp;try with_reducible rfl)
      try simp only[Act.put,zsa,zsz,zss]
      refine anyE_one 12 rfl (by kernel_rfl) (fun K hK=>?_)
      go_simp
      refine hK.out _ _ (fun h=>by simp at h) (fun hHeld=>?_)
      clear hK K
      try simp only[Act.put,zsa,zsz,zss]
      refine anyE_done (by kernel_rfl) ?_ _
      obtain ⟨G1,G2,G3,G4,G5,G6⟩:=HFIN.out y g6 cp6 w6 HY.out hown6 hgrow6
      have hk1:=HHL.out
      clear hHeld KEEP hA0 RC HFIN HOWN HNE HOLT hown6 hgrow6 hat6 hlt6 R6 f6 c6 R0 R1 R2 hb
      go_wp2
      go_roundw
      case rel=>exact ⟨k+1,_,hk1,by go_num,G1,G2,G3,G4,G5,G6⟩
      case measure=>simp[intOf];omega
end Go.Proofs.YtcopehiceihdaaaGreat
namespace Go.Proofs.YtcopehiceihdaaaGreat
open Go.RowKit
attribute [local go_sem ↓] Go.wp_at_zero Go.wp_at_succ
theorem tab_small {s:SysF} (hv:verE s=0) (hf:PFew s.p) (h8:Moves8 s.p.st):s.tab.length≤100000:=by
  unfold verE at hv
  by_cases h0:buildE s.p=0
  case neg=>rw[if_neg h0]at hv;exact absurd hv h0
  rw[if_pos h0]at hv
  by_cases h1:s.tn=s.p.n∧s.tab=s.p.sys.1∧s.ex=s.p.sys.2
  case neg=>rw[if_neg h1]at hv;cases hv
  obtain ⟨h2,h3⟩:=buildE_zero h0
  obtain ⟨N,hok⟩:=probOK h2
  have:=hf.small h2 h3
  have:=sys_small hok.n (by have:=hok.n;omega) hok.r this.1
  have e:s.p.full.tab=s.p.sys.1:=rfl
  rw[h1.2.1,←e];omega
end Go.Proofs.YtcopehiceihdaaaGreat
