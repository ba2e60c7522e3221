/- Part of the proof that the laws answer true for every input. -/
import Derived.Test.YtaijafjfafbcfaaGreatPXb22
import Derived.Test.YtaijafjfafbcfaaGreatPXb21
import Derived.Laws.EntriesVeiled
set_option linter.unusedSimpArgs false
set_option linter.unnecessarySimpa false
set_option linter.unusedVariables false
set_option maxRecDepth 100000
set_option maxHeartbeats 40000000
namespace Go.Proofs.YtaijafjfafbcfaaGreat
open Go.RowKit
attribute [local go_sem ↓] Go.wp_at_zero Go.wp_at_succ
theorem step_make_own {P:Program} {ops:Array Oper} {o:Oper} {a:Act} {w:World} {K:Act→World→Prop} {Q:Exit→Act→World→Prop} {E:Prop} (hgd:o.guard=none) (l c:Operand) (t:TypeId) (hop:o.op=Op.makeSlice t l c)
  (base:Nat) (e:TypeId) (i:TypeInfo) (z:Value) (size:Nat) (ht:P.underlying t=some (.slice e)) (hi:P.info? e=some i) (hz:i.zero=some z) (hsize:i.size=size)
  (kl kc:IntKind) (n:Nat) (hl:a.eval l=.int kl 0) (hc:a.eval c=.int kc (n:Int)) (hbytes:i.bytes * n≤281474976710656) (h63:n≤maxLen) (hbase:base≤w.heap.size)
  (h:∀w',w'.ownsRow base e size (.slice (some ⟨w.heap.size,0,none⟩) 0 n) 0 []→w.grownBy w' none→K (a.put o.dst (.slice (some ⟨w.heap.size,0,none⟩) 0 n)) w'):
  if Region.wanted o (yielded ops a.tmps)=true then Oper.wp P o a w K Q else E:=by
 have hw:Region.wanted o (yielded ops a.tmps)=true:=by simp[Region.wanted,hgd]
 rw[if_pos hw]
 obtain ⟨w',hr,h2,h3⟩:=run_make_own (P:=P) w base t e i z size ht hi hz hsize kl kc n hbytes h63 hbase
 unfold Oper.wp
 simp[execOp,hop,hl,hc,hr,Result.andThen]
 exact h w' h2 h3
theorem words_calls {S:Nat→Prop} {w:World} {vs:Value} {st:Moves} (n:Int) (hs:Sl (kSl (kFlat 8)) S w vs st) (hz:checkA n st=0) (k:Nat) (hk:k≤6) (hc:cntW st k 0≤4096):
  Calls Tryz.prog 69 #[.agg #[.int .i64 n,vs],.int .i64 k] w (Post w fun w' r=>∃v,r=.tuple #[v,.int .i64 0]∧Sl kWord (fun b=>w.heap.size≤b) w' v (wordsD st k 0)):=by
 obtain ⟨_,_,hl1,hl2,_,hok,_⟩:=checkA_zero hz
 obtain ⟨sa,sc,rfl,hm⟩:=hs.addr
 have ex:Below w.heap.size w ((w.alloc (.cells #[.int .i64 n,.slice sa st.length sc] 27)).alloc (.cells #[.int .i64 k] 3)):=ext_alloc' (ext_alloc w _) _
 have RA:Row ((w.alloc (.cells #[.int .i64 n,.slice sa st.length sc] 27)).alloc (.cells #[.int .i64 k] 3)) w.heap.size 27 [.int .i64 n,.slice sa st.length sc]:=(row_new w [_,_] _).alloc _
 have RK:Row ((w.alloc (.cells #[.int .i64 n,.slice sa st.length sc] 27)).alloc (.cells #[.int .i64 k] 3)) (w.heap.size+1) 3 [.int .i64 k]:=by
  have:=row_new (w.alloc (.cells #[.int .i64 n,.slice sa st.length sc] 27)) [.int .i64 k] 3
  rwa [World.size_alloc]at this
 have KC:Hid (∀W,Below w.heap.size w W→Calls Tryz.prog 93 #[.agg #[.int .i64 n,.slice sa st.length sc],.int .i64 k,.int .i64 4096] W (Post W fun _ r=>r=.tuple #[.int .i64 (cntW st k 0:Nat),.int .i64 0])):=Lib.hid fun W hW=>by
  have:=counted_calls n (hs.ext hW) hz k 4096 hk (by omega)
  unfold numR at this
  rw[if_neg (by omega)]at this
  exact this
 have HS:=Lib.hid hs.block
 have HOK:=Lib.hid hok
 obtain ⟨c,hcc⟩:∃c,c=cntW st k 0:=⟨_,rfl⟩
 rw[←hcc]at KC hc
 have HCC:=Lib.hid hcc
 clear hs hok hz hcc
 go_enter Tryz.func69,Tryz.ntmps69
 go_wp2_with fail
 refine (KC.out _ ex).mono ?_
 rintro _ w1 ⟨_,rfl,hb1,rfl⟩
 replace RA:=RA.ext hb1
 replace RK:=RK.ext hb1
 replace ex:=ext_trans ex hb1
 have r0:=RK.cell (j:=0) rfl
 have hlk:=RK.lt
 obtain ⟨i0,hi,hz0,hz1,hz2⟩:=info_parts info_word
 obtain ⟨ir,hri,hrz0,hrz1,hrz2⟩:=info_parts info_round
 clear KC hb1
 go_wp2_with (first | (at_make;refine wpList_make_own w1 rfl _ _ 132 rfl w.heap.size 78 i0 (.slice none 0 0) 1 Tryz.underlying132 hi hz0 hz1 .i64 .i64 _ c rfl rfl rfl (by rw[hz2];omega) (by unfold maxLen;omega) ex.size ?_;intro w2 hown2 hgrow2;have hb2:Below w1.heap.size w1 w2:=(Below.refl _ w1).grown hgrow2 (Nat.le_refl _) (fun j hj=>by cases hj);have r2:=(RK.ext hb2).cell (j:=0) rfl) | fail)
 have hown4:=(hown2.alloc (.cells #[.slice (some ⟨w1.heap.size,0,none⟩) 0 c] 132)).alloc (.cells #[.func (Fn.func 94) #[] #[.pointer (some ⟨w.heap.size+1,0,none⟩),.pointer (some ⟨w2.heap.size,0,none⟩),.pointer (some ⟨w.heap.size,0,none⟩),.pointer (some ⟨w2.heap.size+1,0,none⟩)]] 162)
 have RO:=(row_new w2 [.slice (some ⟨w1.heap.size,0,none⟩) 0 c] 132).alloc (.cells #[.func (Fn.func 94) #[] #[.pointer (some ⟨w.heap.size+1,0,none⟩),.pointer (some ⟨w2.heap.size,0,none⟩),.pointer (some ⟨w.heap.size,0,none⟩),.pointer (some ⟨w2.heap.size+1,0,none⟩)]] 162)
 have RF:=row_new (w2.alloc (.cells #[.slice (some ⟨w1.heap.size,0,none⟩) 0 c] 132)) [.func (Fn.func 94) #[] #[.pointer (some ⟨w.heap.size+1,0,none⟩),.pointer (some ⟨w2.heap.size,0,none⟩),.pointer (some ⟨w.heap.size,0,none⟩),.pointer (some ⟨w2.heap.size+1,0,none⟩)]] 162
 rw[World.size_alloc]at RF
 have hx4:=ext_alloc' (ext_alloc' (ext_trans ex hb2) (.cells #[.slice (some ⟨w1.heap.size,0,none⟩) 0 c] 132)) (.cells #[.func (Fn.func 94) #[] #[.pointer (some ⟨w.heap.size+1,0,none⟩),.pointer (some ⟨w2.heap.size,0,none⟩),.pointer (some ⟨w.heap.size,0,none⟩),.pointer (some ⟨w2.heap.size+1,0,none⟩)]] 162)
 have hy4:Below w1.heap.size w1 ((w2.alloc (.cells #[.slice (some ⟨w1.heap.size,0,none⟩) 0 c] 132)).alloc (.cells #[.func (Fn.func 94) #[] #[.pointer (some ⟨w.heap.size+1,0,none⟩),.pointer (some ⟨w2.heap.size,0,none⟩),.pointer (some ⟨w.heap.size,0,none⟩),.pointer (some ⟨w2.heap.size+1,0,none⟩)]] 162)):=ext_alloc' (ext_alloc' hb2 _) _
 have RA4:=RA.ext hy4
 have RK4:=RK.ext hy4
 have hV:=(hown2.lt w1.heap.size rfl).2
 have hexs:=ex.size
 obtain ⟨OB,hOB⟩:∃OB,OB=w2.heap.size:=⟨_,rfl⟩
 obtain ⟨V0,hV0⟩:∃V0,V0=w1.heap.size:=⟨_,rfl⟩
 rw[←hOB,←hV0]at hown4 RO RF hx4 RA4 RK4 ⊢
 rw[←hOB,←hV0]at hV
 rw[←hV0]at hexs hlk
 obtain ⟨w4,hw4⟩:∃w4,w4=(w2.alloc (.cells #[.slice (some ⟨V0,0,none⟩) 0 c] 132)).alloc (.cells #[.func (Fn.func 94) #[] #[.pointer (some ⟨w.heap.size+1,0,none⟩),.pointer (some ⟨OB,0,none⟩),.pointer (some ⟨w.heap.size,0,none⟩),.pointer (some ⟨OB+1,0,none⟩)]] 162):=⟨_,rfl⟩
 rw[←hw4]at hown4 RO RF hx4 RA4 RK4 ⊢
 clear hy4 hw4 hOB hV0 hown2 hgrow2 hb2 r2 r0 RA RK ex hi hz0 hz1 hz2
 have FB1:=RF
 have hfl:=RF.lt
 have KEEP:Hid (∀w',Below w4.heap.size w4 w'→w'.cell? ⟨OB+1,0,none⟩=some (.func (Fn.func 94) #[] #[.pointer (some ⟨w.heap.size+1,0,none⟩),.pointer (some ⟨OB,0,none⟩),.pointer (some ⟨w.heap.size,0,none⟩),.pointer (some ⟨OB+1,0,none⟩)])∧w'.cell? ⟨w.heap.size+1,0,none⟩=some (.int .i64 k)):=Lib.hid fun w' h=>⟨(RF.ext h).cell (j:=0) rfl,(RK4.ext h).cell (j:=0) rfl⟩
 have HBY:Hid (ir.bytes * k≤281474976710656):=Lib.hid (by rw[hrz2];omega)
 have HBM:Hid (k≤maxLen):=Lib.hid (by unfold maxLen;omega)
 have HNB:Hid (w.heap.size≤w4.drew.heap.size):=Lib.hid hx4.size
 obtain ⟨G,hG⟩:∃G,G=w4.heap.size:=⟨_,rfl⟩
 have FIN7:Hid (∀w7,w7.ownsRow w.heap.size 119 7 (.slice (some ⟨w4.drew.heap.size,0,none⟩) 0 k) 0 []→w4.drew.grownBy w7 none→(w7.cell? ⟨OB+1,0,none⟩=some (.func (Fn.func 94) #[] #[.pointer (some ⟨w.heap.size+1,0,none⟩),.pointer (some ⟨OB,0,none⟩),.pointer (some ⟨w.heap.size,0,none⟩),.pointer (some ⟨OB+1,0,none⟩)])∧w7.cell? ⟨w.heap.size+1,0,none⟩=some (.int .i64 k))∧
   Calls Tryz.prog 94 #[.int .i64 0,.slice (some ⟨w4.drew.heap.size,0,none⟩) 0 k,.pointer (some ⟨w.heap.size+1,0,none⟩),.pointer (some ⟨OB,0,none⟩),.pointer (some ⟨w.heap.size,0,none⟩),.pointer (some ⟨OB+1,0,none⟩)] w7 (WEnd OB w.heap.size w4.heap.size k w7 (.slice (some ⟨V0,0,none⟩) 0 c) [] [] ((wordsD st k 0).map ([]++·)))∧
   ∀e W',WEnd OB w.heap.size w4.heap.size k w7 (.slice (some ⟨V0,0,none⟩) 0 c) [] [] ((wordsD st k 0).map ([]++·)) e W'→∃v ov2,e=.returned v∧(W'.cell? ⟨OB+1,0,none⟩=some (.func (Fn.func 94) #[] #[.pointer (some ⟨w.heap.size+1,0,none⟩),.pointer (some ⟨OB,0,none⟩),.pointer (some ⟨w.heap.size,0,none⟩),.pointer (some ⟨OB+1,0,none⟩)])∧W'.cell? ⟨w.heap.size+1,0,none⟩=some (.int .i64 k))∧Below w.heap.size w W'∧Row W' OB 132 [ov2]∧∃a cc,ov2=.slice a (wordsD st k 0).length cc∧Sl kWord (fun b=>w.heap.size≤b) W' ov2 (wordsD st k 0)):=Lib.hid fun w7 ho7 hg7=>by
  have hB7:Below w4.heap.size w4 w7:=(drewN_below _ _ 1).trans ((Below.refl _ w4.drew).grown hg7 (Nat.le_refl _) (fun j hj=>by cases hj))
  have hs7:=hB7.size
  have hkp:keepsW OB w4.heap.size (.slice (some ⟨V0,0,none⟩) 0 c) (w.heap.size+1)∧keepsW OB w4.heap.size (.slice (some ⟨V0,0,none⟩) 0 c) w.heap.size∧keepsW OB w4.heap.size (.slice (some ⟨V0,0,none⟩) 0 c) (OB+1):=
   ⟨⟨by omega,by omega,by simp[Value.ownBlock];omega⟩,⟨by omega,by omega,by simp[Value.ownBlock];omega⟩,⟨by omega,by omega,by simp[Value.ownBlock];omega⟩⟩
  refine ⟨KEEP.out _ hB7,?_,?_⟩
  ·exact words1_calls k (S:=fun b=>S b∧b<w.heap.size) (Nat.le_trans hx4.size hs7) ⟨RK4.ext hB7,RA4.ext hB7,RF.ext hB7,⟨by omega,Nat.le_refl _,by omega,by omega⟩,by omega,by omega,by omega⟩
    ⟨RO.ext hB7,⟨[],owns_ext hown4 hB7,fun j hj=>by simp at hj⟩,ho7,fun g hg=>by simp[Value.ownBlock]at hg;omega,by omega,by omega⟩ hkp (by simp) ((HS.out.ext hx4).ext hB7) (fun b hb=>hb.2) HOK.out hk 0 (by omega) (by simp) (by simp;rw[←HCC.out];omega)
  ·rintro e W' ⟨v,ov2,rfl,hA8,hB8,hO8,hg8⟩
   have el:([]:List (List (List Int)))++(wordsD st k 0).map ([]++·)=wordsD st k 0:=by simp
   rw[el]at hO8
   obtain ⟨a2,c2,e2,_,_⟩:=hO8.ok.form
   have hfew:(wordsD st k 0).length≤140737488355328:=by rw[length_wordsD,←HCC.out];omega
   refine ⟨v,ov2,rfl,⟨((RF.ext hB7).agree hA8 hkp.2.2).cell (j:=0) rfl,((RK4.ext hB7).agree hA8 hkp.1).cell (j:=0) rfl⟩,(hx4.trans (hB7.mono hx4.size)).trans hB8,hO8.ob,a2,c2,e2,(hO8.ok.sl hfew).mono fun b hb=>by rcases hb with h | h<;>omega⟩
 clear RF RO RA4 RK4 FB1 hown4 HS HOK
 go_wp2
 refine region_E (fun w':World=>w'.cell? ⟨OB+1,0,none⟩=some (.func (Fn.func 94) #[] #[.pointer (some ⟨w.heap.size+1,0,none⟩),.pointer (some ⟨OB,0,none⟩),.pointer (some ⟨w.heap.size,0,none⟩),.pointer (some ⟨OB+1,0,none⟩)])∧w'.cell? ⟨w.heap.size+1,0,none⟩=some (.int .i64 k)) (fun i=>false) (by kernel_rfl) ?_ (fun hHeld=>?_)
 ·exact KEEP.out _ (drewN_below _ _ 1)
 refine anyE_take 0 (v:=?_) rfl (by kernel_rfl) (fun _ _ _ h=>h) (by rfl) ?hy0 hHeld ?rest0
 case hy0=>(intro w hSw;(try dsimp only at hSw);go_simp;try with_reducible rfl)
 try simp only[Act.put,zsa,zsz,zss]
 refine anyE_take 1 (v:=?_) rfl (by kernel_rfl) (fun _ _ _ h=>h) (by rfl) ?hy1 hHeld ?rest1
 case hy1=>(intro w hSw;(try dsimp only at hSw);go_simp;try with_reducible rfl)
 try simp only[Act.put,zsa,zsz,zss]
 refine anyE_one 2 rfl (by kernel_rfl) (fun K hK=>?_)
 (refine step_make_own rfl _ _ 78 (by rfl) w.heap.size 119 ir _ 7 Tryz.underlying78 hri hrz0 hrz1 .i64 .i64 k (by rfl) (by rfl) HBY.out HBM.out HNB.out ?_;intro w7 ho7 hg7;have H7:=Lib.hid (FIN7.out w7 ho7 hg7);clear ho7 hg7)
 refine hK.out _ _ (fun _=>H7.out.1) (fun hHeld=>?_);replace hHeld:=hHeld rfl
 clear hK K
 try simp only[Act.put,zsa,zsz,zss]
 refine anyE_one 3 rfl (by kernel_rfl) (fun K hK=>?_)
 go_simp;go_at_call 94;refine H7.out.2.1.mono ?_;intro e8 w8 hE;obtain ⟨v8,ov2,rfl,hA8,hB8,hO8⟩:=H7.out.2.2 _ _ hE;have HO8:=Lib.hid hO8;clear hE hO8
 refine hK.out _ _ (fun _=>hA8) (fun hHeld=>?_);replace hHeld:=hHeld rfl
 clear hK K
 try simp only[Act.put,zsa,zsz,zss]
 refine anyE_done (by kernel_rfl) ?_ _
 have hbl:=hB8
 obtain ⟨hob,a2,c2,rfl,hsl⟩:=HO8.out
 have o0:=hob.cell (j:=0) rfl
 have hol:=hob.lt
 have HSL:=Lib.hid hsl
 clear H7 hA8 KEEP HO8 FIN7 hHeld hob hsl
 go_wp2
 go_ret2
 exact .mk hbl ⟨_,rfl,HSL.out⟩
end Go.Proofs.YtaijafjfafbcfaaGreat
namespace Go.Proofs.YtaijafjfafbcfaaGreat
open Go.RowKit Go.Maps
attribute [local go_sem ↓] Go.wp_at_zero Go.wp_at_succ
def kInts:Kd (List Int) where
  size:=1
  rd S w cs l:=∃v,cs=[v]∧Ints S w v l
  agree h hw:=by obtain ⟨v,e,h⟩:=h;exact ⟨v,e,h.agree hw⟩
  mono h hS:=by obtain ⟨v,e,h⟩:=h;exact ⟨v,e,h.mono hS⟩
  block h:=by obtain ⟨v,e,h⟩:=h;exact ⟨v,e,h.block 0⟩
  len h:=by obtain ⟨v,rfl,_⟩:=h;rfl
  one h u hu:=by
    obtain ⟨v,rfl,h⟩:=h
    obtain ⟨a,cap,rfl,_⟩:=h.form
    obtain rfl:=List.mem_singleton.1 hu
    rfl
theorem Lists.of_sl {S:Nat→Prop} {w:World} {v:Value} {l:List (List Int)} (h:Sl kInts S w v l):Lists S w v l:=by
  obtain ⟨a,cap,rfl,ha,h1,h2,hc⟩:=h
  refine ⟨a,cap,rfl,ha,h1,h2.1,fun k hk=>?_⟩
  obtain ⟨cs,h3,v,rfl,h4⟩:=hc k hk
  refine ⟨v,?_,by rw[nthL_eq hk];exact h4⟩
  have:=h3 0 (by show 0<1;omega)
  simpa[kInts] using this
def PR (N0 BB MB:Nat) (W:World) (vv:Value) (b:Nat):Prop:=N0≤b∧b<W.heap.size∧keepsB BB MB vv b
theorem PR.next {N0 BB MB b:Nat} {W W':World} {vv vv':Value} (h:PR N0 BB MB W vv b) (hs:W.heap.size≤W'.heap.size) (hg:∀g,vv'.ownBlock=some g→vv.ownBlock=some g∨W.heap.size≤g):PR N0 BB MB W' vv' b:=
  ⟨h.1,Nat.lt_of_lt_of_le h.2.1 hs,h.2.2.1,h.2.2.2.1,fun e=>by
    rcases hg b e with h1 | h1
    · exact h.2.2.2.2 h1
    · have:=h.2.1;omega⟩
theorem PR.same {N0 BB MB b:Nat} {W W':World} {vv:Value} (h:PR N0 BB MB W vv b) (hs:W.heap.size≤W'.heap.size):PR N0 BB MB W' vv b:=h.next hs fun g hg=>.inl hg
theorem BSt.agree {B BB MB:Nat} {n:Int} {W W':World} {vv:Value} {tab:List (List Int)} {T:Nat→Prop} (h:BSt B BB MB n W vv tab) (hA:Agree T W W') (h1:T BB) (h2:T MB) (h3:∀g,vv.ownBlock=some g→T g):BSt B BB MB n W' vv tab:=
  ⟨h.row.agree hA h1,h.own.agree hA h3 fun b hb=>hb.elim,h.map.agree hA h2,h.ok,h.og,h.bm⟩
theorem BSt.fresh {B BB MB:Nat} {n:Int} {W:World} {vv:Value} {tab:List (List Int)} (h:BSt B BB MB n W vv tab) {g:Nat} (hg:W.heap.size≤g):keepsB BB MB vv g:=
  ⟨by have:=h.row.lt;omega,by have:=h.map.lt;omega,fun e=>by have:=(h.own.lt g e).2;omega⟩
theorem BSt.low {B BB MB:Nat} {n:Int} {W:World} {vv:Value} {tab:List (List Int)} (h:BSt B BB MB n W vv tab) {g:Nat} (hg:g<B):keepsB BB MB vv g:=
  ⟨by have:=h.bm;omega,by have:=h.bm;omega,fun e=>by have:=(h.own.lt g e).1;omega⟩
structure PE (B BB MB:Nat) (n:Int) (X:Nat) (W0:World) (vv0:Value) (W:World) (vv:Value) (tab:List (List Int)):Prop where
  ag:Agree (fun b=>keepsB BB MB vv0 b∧b≠X) W0 W
  be:Below B W0 W
  st:BSt B BB MB n W vv tab
  og:∀g,vv.ownBlock=some g→vv0.ownBlock=some g∨W0.heap.size≤g
section
variable {B BB MB X:Nat} {n:Int} {W0 W W':World} {vv0 vv:Value} {tab tab':List (List Int)}
theorem PE.start (h:BSt B BB MB n W vv tab):PE B BB MB n X W vv W vv tab:=⟨.refl _ _,.refl _ _,h,fun g hg=>.inl hg⟩
theorem PE.ext (h:PE B BB MB n X W0 vv0 W vv tab) (hB:B≤W0.heap.size) (hb:Below W.heap.size W W'):PE B BB MB n X W0 vv0 W' vv tab:=
  ⟨h.ag.trans (.of_ext hb),h.be.trans (hb.mono (Nat.le_trans hB h.be.size)),h.st.ext hb,h.og⟩
theorem PE.add (h:PE B BB MB n X W0 vv0 W vv tab) (he:BEnd B BB MB n W vv tab' W'):∃vv',PE B BB MB n X W0 vv0 W' vv' tab'∧Agree (keepsB BB MB vv) W W'∧∀g,vv'.ownBlock=some g→vv.ownBlock=some g∨W.heap.size≤g:=by
  obtain ⟨vv',h1,h2,h3,h4⟩:=he
  refine ⟨vv',⟨⟨Nat.le_trans h.ag.size h1.size,fun b hb hlt=>?_⟩,h.be.trans h2,h3,fun g hg=>?_⟩,h1,h4⟩
  · refine (h1.block b ⟨hb.1.1,hb.1.2.1,fun e=>?_⟩ (Nat.lt_of_lt_of_le hlt h.ag.size)).trans (h.ag.block b hb hlt)
    rcases h.og b e with e1 | e1
    · exact hb.1.2.2 e1
    · omega
  · rcases h4 g hg with e | e
    · exact h.og g e
    · exact .inr (Nat.le_trans h.ag.size e)
theorem PE.set (h:PE B BB MB n X W0 vv0 W vv tab) (hX:keepsB BB MB vv X) (hB:B≤X) (j:Nat) (u:Value):PE B BB MB n X W0 vv0 (W.setCell ⟨X,j,none⟩ u) vv tab:=by
  have hA:Agree (fun b=>b≠X) W (W.setCell ⟨X,j,none⟩ u):=.of_grown (grownBy_setCell _ _ _ _) fun b hb e=>hb (by cases e;rfl)
  exact ⟨h.ag.trans (hA.mono fun b hb=>hb.2),h.be.setCell (by simpa using hB) _,h.st.agree hA (fun e=>hX.1 e.symm) (fun e=>hX.2.1 e.symm) fun g hg e=>hX.2.2 (by rw[←e];exact hg),h.og⟩
theorem PE.trans {X':Nat} {W2:World} {vv2:Value} {tab2:List (List Int)} (h:PE B BB MB n X W0 vv0 W vv tab) (h2:PE B BB MB n X' W vv W2 vv2 tab2) (hX:W0.heap.size≤X'):PE B BB MB n X W0 vv0 W2 vv2 tab2:=by
  refine ⟨⟨Nat.le_trans h.ag.size h2.ag.size,fun b hb hlt=>?_⟩,h.be.trans h2.be,h2.st,fun g hg=>?_⟩
  · refine (h2.ag.block b ⟨⟨hb.1.1,hb.1.2.1,fun e=>?_⟩,by omega⟩ (Nat.lt_of_lt_of_le hlt h.ag.size)).trans (h.ag.block b hb hlt)
    rcases h.og b e with e1 | e1
    · exact hb.1.2.2 e1
    · omega
  · rcases h2.og g hg with e | e
    · exact h.og g e
    · exact .inr (Nat.le_trans h.ag.size e)
theorem PE.size (h:PE B BB MB n X W0 vv0 W vv tab):W0.heap.size≤W.heap.size:=h.ag.size
end
theorem idx_arr (b off:Nat) {p:Nat} (hp:p<5) (W:World):
    (Instr.indexAt 115 (.pointer (some ⟨b,off,none⟩)) (.int .i64 p)).run Tryz.prog W=.ok (.pointer (some ⟨b,off+p,none⟩)) W:=by
  obtain ⟨i,hi,hz1,hz2,hz3⟩:=info_parts info_int
  have hA:=Tryz.underlying115
  have hE:Tryz.prog.elem 115=3:=by simp[Program.elem,hA]
  have hL:Tryz.prog.arrayLen 115=5:=by simp[Program.arrayLen,hA]
  rw[run_indexAt_array W _ _ _ _ (by rw[hE,hL];exact hA),hL,hE,if_pos (by omega)]
  simp[sizeOf,typeInfo,hi,hz2,Result.andThen,Addr.add]
theorem idx_own (g n c:Nat) {k:Nat} (hk:k<n) (W:World):(Instr.indexAt 44 (.slice (some ⟨g,0,none⟩) n c) (.int .i64 k)).run Tryz.prog W=.ok (.pointer (some ⟨g,k,none⟩)) W:=by
  obtain ⟨i,hi,_,h1,_⟩:=info_parts info_int
  rw [run_indexAt_slice W _ _ n c .i64 k (by have : Tryz.prog.elem 44 = 3 := by simp [Program.elem, Tryz.underlying44]
                                             rw[this];exact Tryz.underlying44),if_pos (by omega)]
  simp[Program.elem,Tryz.underlying44,sizeOf,typeInfo,hi,h1,Result.andThen,Addr.add]
  try omega
theorem info_roundB:(Tryz.prog.info? 119).map (·.size)=some 7:=by kernel_rfl
theorem idx_word {S:Nat→Prop} {w:World} {a:Option Addr} {n cap:Nat} (h:Ad S w a n cap):∀k:Nat,k<n→∀W:World,(Instr.indexAt 78 (.slice a n cap) (.int .i64 k)).run Tryz.prog W=.ok (.pointer (some (adr a (k * 7)))) W:=by
  have h7:=info_roundB
  cases hi:Tryz.prog.info? 119 with
  | none=>rw[hi]at h7;cases h7
  | some i=>
    rw[hi]at h7
    exact idx_wide Tryz.underlying78 hi (by simpa using h7) h
def layR (mk:Nat→List Int) (t:List (List Int)) (N k:Nat):List Value:=((layV mk t k).2++List.replicate (N - k) 0).map (Value.int .i64)
theorem layR_zero (mk:Nat→List Int) (t:List (List Int)) (N:Nat):layR mk t N 0=(List.replicate N (0:Int)).map (Value.int .i64):=by unfold layR layV;simp
theorem layR_next {mk:Nat→List Int} {t:List (List Int)} {N k:Nat} (h:k<N):(layR mk t N k).set k (.int .i64 (idxV (layV mk t k).1 (mk k):Nat))=layR mk t N (k+1):=by
  unfold layR
  rw[←List.map_set]
  congr 1
  have hl:=layV_len mk t k
  have hr:List.replicate (N - k) (0:Int)=0::List.replicate (N - (k+1)) 0:=by rw[←List.replicate_succ];congr 1;omega
  rw[hr,List.set_append_right _ _ (by omega),hl,Nat.sub_self,zsz]
  show _=(layV mk t k).2++[_]++_
  rw[List.append_assoc];rfl
theorem layR_full (mk:Nat→List Int) (t:List (List Int)) (N:Nat):layR mk t N N=(layV mk t N).2.map (Value.int .i64):=by unfold layR;simp
theorem layR_get {mk:Nat→List Int} {t:List (List Int)} {N k:Nat} (h:k<N):(layR mk t N k)[k]? =some (.int .i64 0):=by
  unfold layR
  rw[List.getElem?_map,List.getElem?_append_right (by rw[layV_len];omega),layV_len,Nat.sub_self]
  have hr:List.replicate (N - k) (0:Int)=0::List.replicate (N - (k+1)) 0:=by rw[←List.replicate_succ];congr 1;omega
  rw[hr];rfl
theorem layV_bound (mk:Nat→List Int) {t:List (List Int)} {M:Nat} (ht:t.length≤M):∀q,∀x∈(layV mk t q).2,0≤x∧x<(M:Int)+q
  | 0,x,h=>by simp[layV]at h
  | q+1,x,h=>by
    unfold layV at h
    rcases List.mem_append.1 h with h | h
    · have:=layV_bound mk ht q x h;omega
    · rw[List.mem_singleton.1 h]
      have h1:=idxV_le (layV mk t q).1 (mk q)
      have h2:=layV_size mk t q
      omega
theorem playV_bound (n:Nat) (inn:List Int) (word:List (List Int)) {t:List (List Int)} {M:Nat} (ht:t.length≤M):∀k,∀l∈(playV n inn word t k).2,l.length=n∧∀x∈l,0≤x∧x<(M:Int)+n * (k+1)
  | 0,l,h=>by
    unfold playV at h
    rw[List.mem_singleton.1 h]
    refine ⟨layV_len _ _ _,fun x hx=>?_⟩
    have:=layV_bound (fun q=>firstV q (nth inn q)) ht n x hx
    simp;omega
  | k+1,l,h=>by
    unfold playV at h
    have e:(n:Int) * ((k+1:Nat)+1)=n * (k+1)+n:=by rw[Int.mul_add];simp
    rcases List.mem_append.1 h with h | h
    · obtain ⟨h1,h2⟩:=playV_bound n inn word ht k l h
      refine ⟨h1,fun x hx=>?_⟩
      have:=h2 x hx
      omega
    · rw[List.mem_singleton.1 h]
      refine ⟨layV_len _ _ _,fun x hx=>?_⟩
      have hs:=playV_size n inn word t k
      have h1:(playV n inn word t k).1.length≤M+n * (k+1):=by omega
      have:=layV_bound (fun q=>seenV (nthL word k) n (k+1) q (nthL (playV n inn word t k).2 k)) h1 n x hx
      have e2:((M+n * (k+1):Nat):Int)=M+n * (k+1):=by simp
      omega
theorem seenV_next {g:List Int} {j k p:Nat} {prev:List Int} (hj:j<5):(if (nth g (p+1)).toNat.testBit j=true then (seenV g j k p prev).set (3+j) (nth prev j) else seenV g j k p prev)=seenV g (j+1) k p prev:=by
  have h5:j=0∨j=1∨j=2∨j=3∨j=4:=by omega
  rcases h5 with rfl | rfl | rfl | rfl | rfl<;>unfold seenV heardV<;>split<;>rename_i h<;>simp[h]
theorem seenV_zero (g:List Int) (k p:Nat) (prev:List Int):seenV g 0 k p prev=[(p:Int),(k:Int),0, -1, -1, -1, -1, -1]:=by unfold seenV heardV;simp
theorem heardV_wf {g prev:List Int} {n q r:Nat} (h:∀x∈prev,WF x):WF (heardV g n q prev r):=by
  unfold heardV
  split
  · exact nth_wf h r
  · exact WF.small (by omega)
theorem seenV_ok {g prev:List Int} {n k q:Nat} (h:∀x∈prev,WF x) (hk:k≤1000) (hq:q≤1000):ViewOK (seenV g n k q prev):=by
  refine ⟨rfl,fun y hy=>?_⟩
  unfold seenV at hy
  simp only[List.mem_cons,List.not_mem_nil,or_false]at hy
  rcases hy with rfl | rfl | rfl | rfl | rfl | rfl | rfl | rfl
  · exact WF.small (by omega)
  · exact WF.small (by omega)
  · exact WF.small (by omega)
  all_goals exact heardV_wf h
theorem firstV_ok {q:Nat} {x:Int} (h:WF x) (hq:q≤1000):ViewOK (firstV q x):=by
  refine ⟨rfl,fun y hy=>?_⟩
  unfold firstV at hy
  simp only[List.mem_cons,List.not_mem_nil,or_false]at hy
  rcases hy with rfl | rfl | rfl | rfl | rfl | rfl | rfl | rfl
  · exact WF.small (by omega)
  · exact WF.small (by omega)
  · exact h
  all_goals exact WF.small (by omega)
section
variable {B BB MB X:Nat} {n:Int} {W0 W W':World} {vv0 vv:Value} {tab tab':List (List Int)}
theorem PE.move (h:PE B BB MB n X W0 vv0 W vv tab) {T:Nat→Prop} (hA:Agree T W W') (hb:Below B W W') (h1:T BB) (h2:T MB) (h3:∀g,vv.ownBlock=some g→T g) (h4:∀b,b<W0.heap.size→keepsB BB MB vv0 b∧b≠X→T b):PE B BB MB n X W0 vv0 W' vv tab:=
  ⟨⟨Nat.le_trans h.ag.size hA.size,fun b hb hlt=>(hA.block b (h4 b hlt hb) (Nat.lt_of_lt_of_le hlt h.ag.size)).trans (h.ag.block b hb hlt)⟩,h.be.trans hb,h.st.agree hA h1 h2 h3,h.og⟩
theorem lay_step {N0 N k:Nat} {f:Nat→List Int} {v:List Int} {w2 w3:World} {tb:List (List Int)} (hB:B≤W0.heap.size) (hBX:B≤X) (h:PE B BB MB n X W0 vv0 W vv (layV f tb k).1) (R:Row W X 3 (layR f tb N k)) (Q:PR N0 BB MB W vv X) (hk:k<N)
    (hw:Below W.heap.size W w2) (hv:v=f k) (he:BEnd B BB MB n w2 vv (addV (layV f tb k).1 v) w3):∃vv3,Agree (fun b=>keepsB BB MB vv0 b∧b≠X) W0 w3∧w3.cell? ⟨X,k,none⟩=some (.int .i64 0)∧w3.frozen? ⟨X,k,none⟩=false∧X<w3.heap.size∧
      PE B BB MB n X W0 vv0 (w3.setCell ⟨X,k,none⟩ (.int .i64 (idxV (layV f tb k).1 v:Nat))) vv3 (layV f tb (k+1)).1∧Row (w3.setCell ⟨X,k,none⟩ (.int .i64 (idxV (layV f tb k).1 v:Nat))) X 3 (layR f tb N (k+1))∧PR N0 BB MB (w3.setCell ⟨X,k,none⟩ (.int .i64 (idxV (layV f tb k).1 v:Nat))) vv3 X:=by
  subst hv
  obtain ⟨vv3,P3,A3,g3⟩:=(h.ext hB hw).add he
  have Q3:=(Q.same hw.size).next A3.size g3
  have R3:=(R.ext hw).agree A3 (Q.same hw.size).2.2
  have hs:w3.heap.size≤(w3.setCell ⟨X,k,none⟩ (.int .i64 (idxV (layV f tb k).1 (f k):Nat))).heap.size:=(grownBy_setCell w3 X k _).size
  refine ⟨vv3,P3.ag,R3.cell (layR_get hk),R3.free k,R3.lt,P3.set Q3.2.2 hBX k _,?_,Q3.same hs⟩
  rw[←layR_next hk]
  exact R3.set k _
end
theorem OwnK.slS {α:Type} {K:Kd α} {e:TypeId} {base:Nat} {S:Nat→Prop} {w:World} {v:Value} {l:List α} (h:OwnK K e base S w v l) (hn:l.length≤140737488355328) (hS:∀q,v.ownBlock=some q→S q):Sl K S w v l:=by
  obtain ⟨xs,ho,hr⟩:=h
  rcases ho.2 with ⟨rfl,hn0⟩ | ⟨g,cap,cur,rfl,hb,hg,hnc,hcm,_⟩
  · have:l=[]:=by simpa using hn0
    subst this
    exact Sl.nil _ _ _
  · refine ⟨_,cap,rfl,.inr ⟨g,0,rfl,(Array.getElem?_eq_some_iff.1 hg).1,hS g rfl⟩,hnc,⟨hcm,hn⟩,fun j hj=>⟨zzpart xs j K.size,fun i hi=>?_,K.mono (hr j hj) fun b hb=>hb.1⟩⟩
    have hlx:xs.length=l.length * K.size:=ho.1
    have hlt:j * K.size+i<xs.length:=by
      have:(j+1) * K.size≤l.length * K.size:=Nat.mul_le_mul_right _ hj
      rw[Nat.add_mul,Nat.one_mul]at this
      omega
    rw[part_get hi,adr_add,Nat.zero_add,ho.cellAt (j * K.size+i) (by omega)]
theorem row_elem {S:Nat→Prop} {w:World} {g N:Nat} {l:List Int} (R:Row w g 3 (l.map (Value.int .i64))) (hl:l.length=N) (hN:N≤1000000) (hw:∀x∈l,WF x) (hS:S g):kInts.rd S w [.slice (some ⟨g,0,none⟩) N N] l:=by
  subst hl
  exact ⟨_,rfl,(R.ints (by unfold maxLen;omega) hw).mono fun b hb=>by rw[hb];exact hS⟩
theorem own_one {S:Nat→Prop} {w:World} {base g:Nat} {e:TypeId} {u:Value} {l:List Int} (R:Row w g e [u]) (hb:base≤g) (hr:kInts.rd (fun b=>S b∧b≠g) w [u] l):OwnK kInts e base S w (.slice (some ⟨g,0,none⟩) 1 1) [l]:=by
  refine ⟨[u],R.ownsW hb rfl (by decide),fun j hj=>?_⟩
  obtain rfl:j=0:=by simpa using hj
  have hp:zzpart [u] 0 kInts.size=[u]:=part_all rfl
  rw[hp]
  exact kInts.mono hr fun b hb=>⟨hb.1,fun e=>hb.2 (by simpa[Value.ownBlock] using e.symm)⟩
theorem OwnK.slot {α:Type} {K:Kd α} {e:TypeId} {base:Nat} {S S':Nat→Prop} {w w':World} {v:Value} {l:List α} {T:Nat→Prop} (h:OwnK K e base S w v l) (hw:Agree T w w') (h1:∀k,v.ownBlock=some k→T k) (h2:∀b,S b→T b) (h3:∀b,S b→S' b):OwnK K e base S' w' v l:=
  (h.agree hw h1 h2).mono h3
end Go.Proofs.YtaijafjfafbcfaaGreat
