/- Part of the proof that the laws answer true for every input. -/
import Derived.Test.YtaijafjfafbcfaaGreatPXb33
set_option linter.unusedSimpArgs false
set_option linter.unnecessarySimpa false
set_option linter.unusedVariables false
set_option maxRecDepth 100000
set_option maxHeartbeats 40000000
namespace Go.Proofs.YtaijafjfafbcfaaGreat
open Go.RowKit
attribute [local go_sem ↓] Go.wp_at_zero Go.wp_at_succ
structure TabV (N K:Nat) (T:List (List Int)) (v q k:Nat):Prop where
 ql:q<N
 kl:k≤K
 len:(nthL T v).length=8
 q0:nth (nthL T v) 0=q
 k0:nth (nthL T v) 1=k
 zero:k=0→∀j,j<5→nth (nthL T v) (3+j)= -1
 heard:∀j,j<5→nth (nthL T v) (3+j)= -1∨∃u:Nat,u<v∧nth (nthL T v) (3+j)=u∧j<N∧nth (nthL T u) 0=j∧nth (nthL T u) 1=((k - 1:Nat):Int)∧0<k
 own:0<k→∃u:Nat,u<v∧nth (nthL T v) (3+q)=u
def TabOK (N K:Nat) (T:List (List Int)):Prop:=N≤5∧∀v,v<T.length→∃q k,TabV N K T v q k
theorem vwE_head (n:Nat) (inn:List Int) (word vs:List (List Int)) (k q:Nat):nth (vwE n inn word vs k q) 0=q∧nth (vwE n inn word vs k q) 1=k∧(vwE n inn word vs k q).length=8:=by
 cases k with
 | zero=>exact ⟨rfl,rfl,rfl⟩
 | succ k=>exact ⟨rfl,rfl,rfl⟩
theorem GoodS.view {s:SysF} {N K:Nat} (h:GoodS s N K) {e k q:Nat} (he:e<s.ex.length) (hk:k≤K) (hq:q<N):
  ∃v:Nat,v<s.tab.length∧nth (nthL (nthX s.ex e).vs k) q=v∧TabV N K s.tab v q k:=by
 obtain ⟨c,hx⟩:=h.ex e he
 have hN:=h.pok.n1
 obtain ⟨v,hv,h1,h2⟩:=hx.at' k hk q hq
 have hr:=h.refs v hv
 obtain ⟨d0,d1,d2⟩:=vwE_head N (nthC s.p.cs c).inn (nthX s.ex e).word (nthX s.ex e).vs k q
 rw[←h2]at d0 d1 d2
 refine ⟨v,hv,h1,hq,hk,d2,d0,d1,fun h0 j hj=>?_,fun j hj=>?_,fun h0=>?_⟩
 ·subst h0
  rw[h2];exact nth_firstV hj
 ·cases k with
  | zero=>left;rw[h2];exact nth_firstV hj
  | succ k=>
   have e1:nth (nthL s.tab v) (3+j)=heardV (nthL (nthX s.ex e).word k) N q (nthL (nthX s.ex e).vs k) j:=by rw[h2];exact nth_seenV hj
   have hlt:=hr j hj
   rw[e1]at hlt ⊢
   unfold heardV at hlt ⊢
   by_cases hc:j<N∧(nth (nthL (nthX s.ex e).word k) (q+1)).toNat.testBit j=true
   ·right
    rw[if_pos hc]at hlt ⊢
    obtain ⟨u,hu,h3,h4⟩:=hx.at' k (by omega) j hc.1
    obtain ⟨f0,f1,_⟩:=vwE_head N (nthC s.p.cs c).inn (nthX s.ex e).word (nthX s.ex e).vs k j
    rw[←h4]at f0 f1
    exact ⟨u,by omega,h3,hc.1,f0,by rw[f1];simp,by omega⟩
   ·left;rw[if_neg hc]
 ·cases k with
  | zero=>omega
  | succ k=>
   have e1:nth (nthL s.tab v) (3+q)=heardV (nthL (nthX s.ex e).word k) N q (nthL (nthX s.ex e).vs k) q:=by rw[h2];exact nth_seenV (by omega)
   have hlt:=hr q (by omega)
   rw[e1]at hlt ⊢
   have hb:=((h.words e he k (by omega)).big q (by omega)).1
   unfold heardV at hlt ⊢
   rw[if_pos ⟨hq,hb⟩]at hlt ⊢
   obtain ⟨u,hu,h3,h4⟩:=hx.at' k (by omega) q hq
   exact ⟨u,by omega,h3⟩
theorem GoodS.tab {s:SysF} {N K:Nat} (h:GoodS s N K):TabOK N K s.tab:=by
 refine ⟨h.pok.n1.2,fun v hv=>?_⟩
 obtain ⟨e,he,k,hk,q,hq,h1⟩:=h.occ v hv
 obtain ⟨u,hu,h2,h3⟩:=h.view he hk hq
 have:u=v:=by omega
 subst this
 exact ⟨q,k,h3⟩
end Go.Proofs.YtaijafjfafbcfaaGreat
namespace Go.Proofs.YtaijafjfafbcfaaGreat
open Go.RowKit
attribute [local go_sem ↓] Go.wp_at_zero Go.wp_at_succ
def fltyW (word:List (List Int)):Int:=if word.length=0 then 0 else nth (nthL word (word.length - 1)) 6
def maskW (N:Nat) (word:List (List Int)):Nat:=without (2 ^ N - 1) (fltyW word).toNat
theorem GoodS.flty {s:SysF} {N K:Nat} (h:GoodS s N K) {e:Nat} (he:e<s.ex.length):∃f:Nat,fltyW (nthX s.ex e).word=f∧f<2 ^ N:=by
 obtain ⟨c,hx⟩:=h.ex e he
 unfold fltyW
 rw[hx.word]
 by_cases h0:K=0
 ·rw[if_pos h0];exact ⟨0,rfl,Nat.pow_pos (by decide)⟩
 ·rw[if_neg h0]
  have h1:=(h.words e he (K - 1) (by omega)).f
  rw[Int.toNat_natCast]at h1
  exact ⟨(nth (nthL (nthX s.ex e).word (K - 1)) 6).toNat,by omega,by omega⟩
theorem pow_sub {N:Nat}:((2 ^ N:Nat):Int) - 1=((2 ^ N - 1:Nat):Int):=by
 have:=Nat.pow_pos (n:=N) (show 0<2 by decide)
 omega
theorem mask_nat {N f:Nat} (hN:N≤5) (hf:f<2 ^ N):bits .andNot .i64 (((2 ^ N:Nat):Int) - 1) (f:Int)=((without (2 ^ N - 1) f:Nat):Int):=by
 have:=Nat.pow_le_pow_right (n:=2) (by decide) hN
 rw[pow_sub]
 exact andNot_nat (by omega) (by omega)
theorem wrap_full {N:Nat} (hN:N≤5):wrap64 (wrap64 (2 ^ N) - 1)=((2 ^ N:Nat):Int) - 1:=by
 have:N=0∨N=1∨N=2∨N=3∨N=4∨N=5:=by omega
 rcases this with rfl | rfl | rfl | rfl | rfl | rfl<;>decide+kernel
theorem without_zero (a:Nat):without a 0=a:=by unfold without;simp
theorem pobliged_calls {S:Nat→Prop} {w:World} {ca sa ta xa wa va:Option Addr} {cc sc tc xc wc vn vc:Nat} {s:SysF} {N f:Nat} {word:List (List Int)} (c:Int) (h:Sl (kFlat 7) S w (.slice wa word.length wc) word) (hn:s.tn=N) (hN:N≤5) (hf:fltyW word=f) (hf2:f<2 ^ N):
  Calls Tryz.prog 51 #[.agg #[.int .i64 s.p.n,.int .i64 s.p.ins,.int .i64 s.p.outs,.slice ca s.p.cs.length cc,.int .i64 s.p.an,.slice sa s.p.st.length sc,.int .i64 s.p.rounds,.int .i64 s.tn,.slice ta s.tab.length tc,.slice xa s.ex.length xc],.agg #[.int .i64 c,.slice wa word.length wc,.slice va vn vc]] w (Post w fun _ r=>r=.int .i64 (maskW N word)):=by
 have HM:Hid (((maskW N word:Nat):Int)=bits .andNot .i64 (((2 ^ N:Nat):Int) - 1) (f:Int)):=Lib.hid (by rw[mask_nat hN hf2];unfold maskW;rw[hf,Int.toNat_natCast])
 have HM0:Hid (f=0→((maskW N word:Nat):Int)=((2 ^ N:Nat):Int) - 1):=Lib.hid fun h0=>by rw[HM.out,mask_nat hN hf2,h0,without_zero,pow_sub]
 have ex:=ext_alloc' (ext_alloc w (.cells #[.int .i64 s.p.n,.int .i64 s.p.ins,.int .i64 s.p.outs,.slice ca s.p.cs.length cc,.int .i64 s.p.an,.slice sa s.p.st.length sc,.int .i64 s.p.rounds,.int .i64 s.tn,.slice ta s.tab.length tc,.slice xa s.ex.length xc] 35)) (.cells #[.int .i64 c,.slice wa word.length wc,.slice va vn vc] 81)
 have R0:=(row_new w [.int .i64 s.p.n,.int .i64 s.p.ins,.int .i64 s.p.outs,.slice ca s.p.cs.length cc,.int .i64 s.p.an,.slice sa s.p.st.length sc,.int .i64 s.p.rounds,.int .i64 s.tn,.slice ta s.tab.length tc,.slice xa s.ex.length xc] 35).alloc (.cells #[.int .i64 c,.slice wa word.length wc,.slice va vn vc] 81)
 have R1:=row_new (w.alloc (.cells #[.int .i64 s.p.n,.int .i64 s.p.ins,.int .i64 s.p.outs,.slice ca s.p.cs.length cc,.int .i64 s.p.an,.slice sa s.p.st.length sc,.int .i64 s.p.rounds,.int .i64 s.tn,.slice ta s.tab.length tc,.slice xa s.ex.length xc] 35)) [.int .i64 c,.slice wa word.length wc,.slice va vn vc] 81
 rw[World.size_alloc]at R1
 rw[hn]at R0 R1 ex ⊢
 have t7:=R0.cell (j:=7) rfl
 have t1:=R1.cell (j:=1) rfl
 have l0:=R0.lt
 have l1:=R1.lt
 by_cases h0:word.length=0
 ·have HF0:Hid (f=0):=Lib.hid (by unfold fltyW at hf;rw[if_pos h0]at hf;omega)
  have d1:decide (0<word.length)=false:=decide_eq_false (by omega)
  obtain ⟨L,hL⟩:∃L,L=word.length:=⟨_,rfl⟩
  rw[←hL]at ex R1 R0 t7 t1 l0 l1 d1 ⊢
  clear h h0 hL hf hf2 hn
  go_enter Tryz.func51,Tryz.ntmps51
  go_wp2
  go_ret
  refine .mk ex (int_eq ?_)
  rw[HM0.out HF0.out,wrap_full hN]
 ·have HW:Hid (fltyW word=nth (nthL word (word.length - 1)) 6):=Lib.hid (by unfold fltyW;rw[if_neg h0])
  obtain ⟨m,hm⟩:∃m,word.length=m+1:=⟨word.length - 1,by omega⟩
  obtain ⟨_,_,he,ad,_⟩:=h.form2
  cases he
  have q1:=idx_word ad m (by omega)
  have z:=(h.nums (k:=m) (by omega) (by decide)).2 6 (by decide)
  have bk:=World.block_lt_of_cell? _ _ z
  rw[hm,Nat.add_sub_cancel,hf]at HW
  rw[←HW.out]at z
  obtain ⟨L,hL⟩:∃L,L=word.length:=⟨_,rfl⟩
  rw[←hL]at ex R1 R0 t7 t1 l0 l1 q1 ⊢
  have hml:(L:Int)≤140737488355328:=by have:=h.few;omega
  have d1:decide ((0:Int)<(L:Int))=true:=decide_eq_true (by omega)
  have d2:((L:Int) - 1)=(m:Int):=by omega
  clear hL h h0 hm ad hf hf2 hn
  go_enter Tryz.func51,Tryz.ntmps51
  go_wp2
  go_ret
  refine .mk ex (int_eq ?_)
  rw[HM.out,wrap_full hN]
end Go.Proofs.YtaijafjfafbcfaaGreat
namespace Go.Proofs.YtaijafjfafbcfaaGreat
open Go.RowKit
attribute [local go_sem ↓] Go.wp_at_zero Go.wp_at_succ
theorem pobl_calls {S:Nat→Prop} {w:World} {v:Value} {s:SysF} {N K e:Nat} (h:SysV S w v s) (hf:PFew s.p) (hv:verE s=0) (hg:GoodS s N K) (he:e<s.ex.length):
  Calls Tryz.prog 27 #[v,.int .i64 e] w (Post w fun _ r=>r=.tuple #[.int .i64 (maskW N (nthX s.ex e).word),.int .i64 0]):=by
 have KV:Hid (∀W,Below w.heap.size w W→Calls Tryz.prog 50 #[v] W (Post W fun _ r=>r=.int .i64 0)):=Lib.hid fun W hW=>by rw[←hv];exact pverify_calls (h.ext hW) hf
 obtain ⟨vc,vs,vt,vx,rfl,hc,hs,ht,hx⟩:=h
 obtain ⟨ca,cc,rfl,_⟩:=hc.form
 obtain ⟨sa,sc,rfl,_⟩:=hs.form
 obtain ⟨ta,tc,rfl,_⟩:=ht.form
 obtain ⟨xa,xc,rfl,xad,_⟩:=hx.form2
 have hN:=hg.pok.n1.2
 obtain ⟨f,hf,hf2⟩:=hg.flty he
 have htn:=hg.tn
 have q1:=idx_exec xad e he
 have ex:=ext_alloc w (.cells #[.int .i64 s.p.n,.int .i64 s.p.ins,.int .i64 s.p.outs,.slice ca s.p.cs.length cc,.int .i64 s.p.an,.slice sa s.p.st.length sc,.int .i64 s.p.rounds,.int .i64 s.tn,.slice ta s.tab.length tc,.slice xa s.ex.length xc] 35)
 have R0:=row_new w [.int .i64 s.p.n,.int .i64 s.p.ins,.int .i64 s.p.outs,.slice ca s.p.cs.length cc,.int .i64 s.p.an,.slice sa s.p.st.length sc,.int .i64 s.p.rounds,.int .i64 s.tn,.slice ta s.tab.length tc,.slice xa s.ex.length xc] 35
 have t0:=R0.cell (j:=0) rfl
 have t1:=R0.cell (j:=1) rfl
 have t2:=R0.cell (j:=2) rfl
 have t3:=R0.cell (j:=3) rfl
 have t4:=R0.cell (j:=4) rfl
 have t5:=R0.cell (j:=5) rfl
 have t6:=R0.cell (j:=6) rfl
 have t7:=R0.cell (j:=7) rfl
 have t8:=R0.cell (j:=8) rfl
 have t9:=R0.cell (j:=9) rfl
 have l0:=R0.lt
 obtain ⟨a1,c1,a2,c2,z0,z1,z2,i1,i2⟩:=hx.exec he
 have KO:Hid (∀W,Below w.heap.size w W→Calls Tryz.prog 51 #[.agg #[.int .i64 s.p.n,.int .i64 s.p.ins,.int .i64 s.p.outs,.slice ca s.p.cs.length cc,.int .i64 s.p.an,.slice sa s.p.st.length sc,.int .i64 s.p.rounds,.int .i64 s.tn,.slice ta s.tab.length tc,.slice xa s.ex.length xc],.agg #[.int .i64 (nthX s.ex e).case,.slice a1 (nthX s.ex e).word.length c1,.slice a2 (nthX s.ex e).vs.length c2]] W (Post W fun _ r=>r=.int .i64 (maskW N (nthX s.ex e).word))):=Lib.hid fun W hW=>pobliged_calls _ (i1.ext hW) htn hN hf hf2
 obtain ⟨x,hxx⟩:∃x,x=nthX s.ex e:=⟨_,rfl⟩
 rw[←hxx]at z0 z1 z2 KO ⊢
 have d2:decide ((e:Int)<0)=false:=decide_eq_false (by omega)
 have d3:decide ((s.ex.length:Int)≤(e:Int))=false:=decide_eq_false (by omega)
 have d4:decide (s.ex.length≤e)=false:=decide_eq_false (by omega)
 clear hc hs ht hx xad hg hf hf2 htn hxx i1 i2 hv
 go_enter Tryz.func27,Tryz.ntmps27
 go_wp2_with fail
 refine (KV.out _ ex).mono ?_
 rintro _ w1 ⟨_,rfl,hb1,rfl⟩
 replace R0:=R0.ext hb1
 replace ex:=ext_trans ex hb1
 clear t0 t1 t2 t3 t4 t5 t6 t7 t8 t9 hb1 KV l0
 have t0:=R0.cell (j:=0) rfl
 have t1:=R0.cell (j:=1) rfl
 have t2:=R0.cell (j:=2) rfl
 have t3:=R0.cell (j:=3) rfl
 have t4:=R0.cell (j:=4) rfl
 have t5:=R0.cell (j:=5) rfl
 have t6:=R0.cell (j:=6) rfl
 have t7:=R0.cell (j:=7) rfl
 have t8:=R0.cell (j:=8) rfl
 have t9:=R0.cell (j:=9) rfl
 have l0:=R0.lt
 have z0':=cell_ext z0 ex
 have z1':=cell_ext z1 ex
 have z2':=cell_ext z2 ex
 have bk1:=World.block_lt_of_cell? _ _ z0'
 replace KO:Hid (∀W,Below w1.heap.size w1 W→Calls Tryz.prog 51 #[.agg #[.int .i64 s.p.n,.int .i64 s.p.ins,.int .i64 s.p.outs,.slice ca s.p.cs.length cc,.int .i64 s.p.an,.slice sa s.p.st.length sc,.int .i64 s.p.rounds,.int .i64 s.tn,.slice ta s.tab.length tc,.slice xa s.ex.length xc],.agg #[.int .i64 x.case,.slice a1 x.word.length c1,.slice a2 x.vs.length c2]] W (Post W fun _ r=>r=.int .i64 (maskW N x.word))):=Lib.hid fun W hW=>KO.out W (ext_trans ex hW)
 have KEEP:Hid (∀w',Below w1.heap.size w1 w'→(fun w':World=>w'.cell? ⟨w.heap.size,0,none⟩=some (.int .i64 s.p.n)∧w'.cell? ⟨w.heap.size,1,none⟩=some (.int .i64 s.p.ins)∧w'.cell? ⟨w.heap.size,2,none⟩=some (.int .i64 s.p.outs)∧w'.cell? ⟨w.heap.size,3,none⟩=some (.slice ca s.p.cs.length cc)∧w'.cell? ⟨w.heap.size,4,none⟩=some (.int .i64 s.p.an)∧w'.cell? ⟨w.heap.size,5,none⟩=some (.slice sa s.p.st.length sc)∧w'.cell? ⟨w.heap.size,6,none⟩=some (.int .i64 s.p.rounds)∧w'.cell? ⟨w.heap.size,7,none⟩=some (.int .i64 s.tn)∧w'.cell? ⟨w.heap.size,8,none⟩=some (.slice ta s.tab.length tc)∧w'.cell? ⟨w.heap.size,9,none⟩=some (.slice xa s.ex.length xc)∧w'.cell? (adr xa (e * 3))=some (.int .i64 x.case)∧w'.cell? ⟨(adr xa (e * 3)).block,(adr xa (e * 3)).off+1,none⟩=some (.slice a1 x.word.length c1)∧w'.cell? ⟨(adr xa (e * 3)).block,(adr xa (e * 3)).off+2,none⟩=some (.slice a2 x.vs.length c2)) w'):=Lib.hid fun w' hw=>⟨cell_ext t0 hw,cell_ext t1 hw,cell_ext t2 hw,cell_ext t3 hw,cell_ext t4 hw,cell_ext t5 hw,cell_ext t6 hw,cell_ext t7 hw,cell_ext t8 hw,cell_ext t9 hw,cell_ext z0' hw,cell_ext z1' hw,cell_ext z2' hw⟩
 clear z0 z1 z2
 go_wp2
 clear R0 t0 t1 t2 t3 t4 t5 t6 t7 t8 t9 z0' z1' z2'
 refine region_E (fun w':World=>w'.cell? ⟨w.heap.size,0,none⟩=some (.int .i64 s.p.n)∧w'.cell? ⟨w.heap.size,1,none⟩=some (.int .i64 s.p.ins)∧w'.cell? ⟨w.heap.size,2,none⟩=some (.int .i64 s.p.outs)∧w'.cell? ⟨w.heap.size,3,none⟩=some (.slice ca s.p.cs.length cc)∧w'.cell? ⟨w.heap.size,4,none⟩=some (.int .i64 s.p.an)∧w'.cell? ⟨w.heap.size,5,none⟩=some (.slice sa s.p.st.length sc)∧w'.cell? ⟨w.heap.size,6,none⟩=some (.int .i64 s.p.rounds)∧w'.cell? ⟨w.heap.size,7,none⟩=some (.int .i64 s.tn)∧w'.cell? ⟨w.heap.size,8,none⟩=some (.slice ta s.tab.length tc)∧w'.cell? ⟨w.heap.size,9,none⟩=some (.slice xa s.ex.length xc)∧w'.cell? (adr xa (e * 3))=some (.int .i64 x.case)∧w'.cell? ⟨(adr xa (e * 3)).block,(adr xa (e * 3)).off+1,none⟩=some (.slice a1 x.word.length c1)∧w'.cell? ⟨(adr xa (e * 3)).block,(adr xa (e * 3)).off+2,none⟩=some (.slice a2 x.vs.length c2)) (fun i=>false) (by kernel_rfl) ?_ (fun hHeld=>?_)
 ·exact KEEP.out _ (drewN_below _ _ 1)
 refine anyE_take 0 (v:=?_) rfl (by kernel_rfl) (fun _ _ _ h=>h) (by rfl) ?hy0 hHeld ?rest0
 case hy0=>(intro w hSw;(try dsimp only at hSw);go_simp;try with_reducible rfl)
 try simp only[Act.put,zsa,zsz,zss]
 refine anyE_take 1 (v:=?_) rfl (by kernel_rfl) (fun _ _ _ h=>h) (by rfl) ?hy1 hHeld ?rest1
 case hy1=>(intro w hSw;(try dsimp only at hSw);go_simp;try with_reducible rfl)
 try simp only[Act.put,zsa,zsz,zss]
 refine anyE_take 2 (v:=?_) rfl (by kernel_rfl) (fun _ _ _ h=>h) (by rfl) ?hy2 hHeld ?rest2
 case hy2=>(intro w hSw;(try dsimp only at hSw);go_simp;try with_reducible rfl)
 try simp only[Act.put,zsa,zsz,zss]
 refine anyE_take 3 (v:=?_) rfl (by kernel_rfl) (fun _ _ _ h=>h) (by rfl) ?hy3 hHeld ?rest3
 case hy3=>(intro w hSw;(try dsimp only at hSw);go_simp;try with_reducible rfl)
 try simp only[Act.put,zsa,zsz,zss]
 refine anyE_take 4 (v:=?_) rfl (by kernel_rfl) (fun _ _ _ h=>h) (by rfl) ?hy4 hHeld ?rest4
 case hy4=>(intro w hSw;(try dsimp only at hSw);go_simp;try with_reducible rfl)
 try simp only[Act.put,zsa,zsz,zss]
 refine anyE_take 5 (v:=?_) rfl (by kernel_rfl) (fun _ _ _ h=>h) (by rfl) ?hy5 hHeld ?rest5
 case hy5=>(intro w hSw;(try dsimp only at hSw);go_simp;try with_reducible rfl)
 try simp only[Act.put,zsa,zsz,zss]
 refine anyE_one 6 rfl (by kernel_rfl) (fun K hK=>?_)
 go_simp;go_at_call 51;refine (KO.out _ (drewN_below _ _ 1)).mono ?_;rintro _ w2 ⟨_,rfl,hb2,rfl⟩;have y2:=ext_trans (drewN_below _ _ 1) hb2;clear hb2
 refine hK.out _ _ (fun _=>KEEP.out _ y2) (fun hHeld=>?_);replace hHeld:=hHeld rfl
 clear hK K
 try simp only[Act.put,zsa,zsz,zss]
 refine anyE_take 7 (v:=?_) rfl (by kernel_rfl) (fun _ _ _ h=>h) (by rfl) ?hy7 hHeld ?rest7
 case hy7=>(intro w hSw;(try dsimp only at hSw);go_simp;try with_reducible rfl)
 try simp only[Act.put,zsa,zsz,zss]
 refine anyE_take 8 (v:=?_) rfl (by kernel_rfl) (fun _ _ _ h=>h) (by rfl) ?hy8 hHeld ?rest8
 case hy8=>(intro w hSw;(try dsimp only at hSw);go_simp;try with_reducible rfl)
 try simp only[Act.put,zsa,zsz,zss]
 refine anyE_done (by kernel_rfl) ?_ _
 clear hHeld KEEP KO
 go_wp2
 go_ret2
 exact .mk (ext_trans ex y2) rfl
theorem maskW_lt {N:Nat} (hN:N≤5) (word:List (List Int)):maskW N word<4294967296:=by
 have:=Nat.pow_le_pow_right (n:=2) (by decide) hN
 exact without_lt (by omega)
end Go.Proofs.YtaijafjfafbcfaaGreat
namespace Go.Proofs.YtaijafjfafbcfaaGreat
open Go.RowKit
attribute [local go_sem ↓] Go.wp_at_zero Go.wp_at_succ
def rndT (T:List (List Int)) (v:Nat):Nat:=(nth (nthL T v) 1).toNat
theorem TabV.rnd {N K:Nat} {T:List (List Int)} {v q k:Nat} (h:TabV N K T v q k):rndT T v=k:=by unfold rndT;rw[h.k0];exact Int.toNat_natCast k
end Go.Proofs.YtaijafjfafbcfaaGreat
namespace Go.Proofs.YtaijafjfafbcfaaGreat
open Go.RowKit
attribute [local go_sem ↓] Go.wp_at_zero Go.wp_at_succ
end Go.Proofs.YtaijafjfafbcfaaGreat
namespace Go.Proofs.YtaijafjfafbcfaaGreat
open Go.RowKit
attribute [local go_sem ↓] Go.wp_at_zero Go.wp_at_succ
theorem Ints.cellN {S:Nat→Prop} {w:World} {a:Option Addr} {c n:Nat} {l:List Int} (h:Ints S w (.slice a n c) l) {k:Nat} (hk:k<l.length):w.cell? (adr a k)=some (.int .i64 (nth l k)):=by
 obtain ⟨_,_,he,_⟩:=h.form
 cases he
 have cc0:=ints_cells h (.refl _ _) k hk
 have hcv:(l.map (Value.int .i64)).getD k undef=.int .i64 (nth l k):=by rw[List.getD_eq_getElem?_getD,List.getElem?_map,get?_nth hk];rfl
 rw[hcv]at cc0
 exact cc0
theorem Ints.idx {S:Nat→Prop} {w:World} {a:Option Addr} {c n:Nat} {l:List Int} (h:Ints S w (.slice a n c) l) {k:Nat} (hk:k<l.length) (W:World):(Instr.indexAt 44 (.slice a n c) (.int .i64 k)).run Tryz.prog W=.ok (.pointer (some (adr a k))) W:=by
 obtain ⟨_,_,he,ad,_⟩:=h.form
 cases he
 obtain ⟨i0,hi,_,hz1,_⟩:=info_parts info_int
 exact idx_one Tryz.underlying44 hi hz1 ad k hk W
end Go.Proofs.YtaijafjfafbcfaaGreat
namespace Go.Proofs.YtaijafjfafbcfaaGreat
open Go.RowKit
attribute [local go_sem ↓] Go.wp_at_zero Go.wp_at_succ
def RuleV (S:Nat→Prop) (w:World) (v:Value) (l:List Int):Prop:=∃u,v=.agg #[u]∧Ints S w u l
theorem RuleV.ext {S:Nat→Prop} {w w':World} {v:Value} {l:List Int} (h:RuleV S w v l) (hw:Below w.heap.size w w'):RuleV S w' v l:=by
 obtain ⟨u,rfl,hu⟩:=h
 exact ⟨u,rfl,hu.ext hw⟩
theorem RuleV.mono {S S':Nat→Prop} {w:World} {v:Value} {l:List Int} (h:RuleV S w v l) (hS:∀b,S b→S' b):RuleV S' w v l:=by
 obtain ⟨u,rfl,hu⟩:=h
 exact ⟨u,rfl,hu.mono hS⟩
theorem row_under {W W':World} {g base:Nat} {xs:List Value} {e:TypeId} (R:Row W g e xs) (hg:g<base) (h:Below base W W'):Row W' g e xs:=R.agree (S:=fun b=>b=g) (.of_below h fun b hb _=>by omega) rfl
end Go.Proofs.YtaijafjfafbcfaaGreat
namespace Go.Proofs.YtaijafjfafbcfaaGreat
open Go.RowKit
attribute [local go_sem ↓] Go.wp_at_zero Go.wp_at_succ
def SysF.N (s:SysF):Nat:=s.p.n.toNat
def SysF.K (s:SysF):Nat:=s.p.rounds.toNat
theorem good_sys {s:SysF} (h:verE s=0) (h8:Moves8 s.p.st):GoodS s s.N s.K:=by
 obtain ⟨N,K,hg⟩:=good_of h h8
 have e1:s.N=N:=by unfold SysF.N;rw[hg.pok.n];exact Int.toNat_natCast N
 have e2:s.K=K:=by unfold SysF.K;rw[hg.rnd];exact Int.toNat_natCast K
 rw[e1,e2];exact hg
end Go.Proofs.YtaijafjfafbcfaaGreat
namespace Go.Proofs.YtaijafjfafbcfaaGreat
open Go.RowKit
attribute [local go_sem ↓] Go.wp_at_zero Go.wp_at_succ
end Go.Proofs.YtaijafjfafbcfaaGreat
namespace Go.Proofs.YtaijafjfafbcfaaGreat
open Go.RowKit
attribute [local go_sem ↓] Go.wp_at_zero Go.wp_at_succ
end Go.Proofs.YtaijafjfafbcfaaGreat
namespace Go.Proofs.YtaijafjfafbcfaaGreat
open Go.RowKit
attribute [local go_sem ↓] Go.wp_at_zero Go.wp_at_succ
end Go.Proofs.YtaijafjfafbcfaaGreat
namespace Go.Proofs.YtaijafjfafbcfaaGreat
open Go.RowKit
attribute [local go_sem ↓] Go.wp_at_zero Go.wp_at_succ
def finL (s:SysF) (e:Nat):List Int:=nthL (nthX s.ex e).vs s.K
theorem GoodS.rndK {s:SysF} {N K:Nat} (h:GoodS s N K):K=s.K:=by unfold SysF.K;rw[h.rnd];exact (Int.toNat_natCast K).symm
theorem GoodS.fin {s:SysF} {N K:Nat} (h:GoodS s N K) {e:Nat} (he:e<s.ex.length):(finL s e).length=N∧∀q,q<N→∃z:Nat,nth (finL s e) q=z∧z<s.tab.length:=by
 unfold finL
 rw[←h.rndK]
 obtain ⟨c,hc⟩:=h.ex e he
 exact ⟨hc.rows K (Nat.le_refl _),fun q hq=>by obtain ⟨v,h1,h2,_⟩:=h.view he (Nat.le_refl K) hq;exact ⟨v,h2,h1⟩⟩
end Go.Proofs.YtaijafjfafbcfaaGreat
namespace Go.Proofs.YtaijafjfafbcfaaGreat
open Go.RowKit
attribute [local go_sem ↓] Go.wp_at_zero Go.wp_at_succ
theorem SysV.moves8 {S:Nat→Prop} {w:World} {v:Value} {s:SysF} (h:SysV S w v s):Moves8 s.p.st:=by obtain ⟨_,_,_,_,_,_,hs,_⟩:=h;exact moves8_of hs
end Go.Proofs.YtaijafjfafbcfaaGreat
namespace Go.Proofs.YtaijafjfafbcfaaGreat
open Go.RowKit
attribute [local go_sem ↓] Go.wp_at_zero Go.wp_at_succ
def minT (f:Nat→Bool):Nat→Nat→Int
 | _,0=> -1
 | k,n+1=>if f k then k else minT f (k+1) n
theorem SysV.num {S:Nat→Prop} {w:World} {v:Value} {s:SysF} (h:SysV S w v s):s.tab.length≤maxLen∧s.ex.length≤maxLen:=by
 obtain ⟨vc,vs,vt,vx,rfl,hc,hs,ht,hx⟩:=h
 exact ⟨ht.len,hx.len⟩
end Go.Proofs.YtaijafjfafbcfaaGreat
namespace Go.Proofs.YtaijafjfafbcfaaGreat
open Go.RowKit
attribute [local go_sem ↓] Go.wp_at_zero Go.wp_at_succ
def oblB (s:SysF) (e q:Nat):Bool:=(maskW s.N (nthX s.ex e).word).testBit q
end Go.Proofs.YtaijafjfafbcfaaGreat
