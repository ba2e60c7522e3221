/- Part of the proof that the laws answer true for every input. -/
import Derived.Test.YtaijafjfafbcfaaGreatPXb32
import Derived.Test.YtaijafjfafbcfaaGreatPXb25
set_option linter.unusedSimpArgs false
set_option linter.unnecessarySimpa false
set_option linter.unusedVariables false
set_option maxRecDepth 100000
set_option maxHeartbeats 40000000
namespace Go.Proofs.YtaijafjfafbcfaaGreat
open Go.RowKit
attribute [local go_sem ↓] Go.wp_at_zero Go.wp_at_succ
def Tells (Q:Prop) (r:Value):Prop:=∃b:Bool,r=.bool b∧(b=true→Q)
theorem Tells.no {Q:Prop}:Tells Q (.bool false):=⟨false,rfl,fun h=>by cases h⟩
theorem Tells.yes {Q:Prop} (h:Q):Tells Q (.bool true):=⟨true,rfl,fun _=>h⟩
def VecsFew (most:Nat) (l:List (List Int)):Prop:=l.length≤most∧∀r∈l,r.length≤10
def CaseFew (c:CaseD):Prop:=c.inn.length≤10∧VecsFew 30 c.out∧VecsFew 30 c.calm
def TaskFew (l:List CaseD):Prop:=l.length≤30∧∀k,k<l.length→CaseFew (nthC l k)
structure FewP (p:ProbD):Prop where
 t:TaskFew p.cs
 a:fewA p.st=true
 n:¬(3<p.n∧p.n≤5)
 m:checkPr p=0→p.num≤60∨4096<p.num
theorem mem_nthL {l:List (List Int)} {r:List Int} (h:r∈l):∃k,k<l.length∧nthL l k=r:=by
 obtain ⟨k,hk,rfl⟩:=List.getElem_of_mem h
 exact ⟨k,hk,nthL_eq hk⟩
theorem moves_row {st:Moves} {k:Nat} (h:k<st.length):(nthM st k).length≤movesN st:=by
 have h1:(pairsTo st st.length).length=movesN st:=by rw[pairsTo_all,length_pairsM]
 have h2:=pairsTo_prefix (st:=st) (k:=k) (j:=(nthM st k).length) h
 have h3:=h2.length_le
 rw[length_pairsM,List.length_append,List.length_map,List.length_take]at h3
 omega
theorem FewP.few {p:ProbD} (h:FewP p):PFew p:=by
 have ha:p.st.length≤8∧movesN p.st≤40:=by
  have:=h.a
  unfold fewA at this
  simpa using this
 refine ⟨⟨by have:=h.t.1;omega,fun k hk=>?_,by omega,fun k hk=>by have:=moves_row hk;omega⟩,by omega,fun hz hn=>?_⟩
 ·obtain ⟨h1,h2,h3⟩:=h.t.2 k hk
  exact ⟨by omega,by have:=h2.1;omega,by have:=h3.1;omega,fun r hr=>by have:=h2.2 r hr;omega,fun r hr=>by have:=h3.2 r hr;omega⟩
 ·refine ⟨by rcases h.m hz with h1 | h1<;>omega,?_⟩
  obtain ⟨N,hok⟩:=probOK hz
  have:=hok.n
  have:=hok.n1
  have:=h.n
  omega
theorem fewV_calls {S:Nat→Prop} {w:World} {v:Value} {l:List (List Int)} (h:Lists S w v l) (most:Nat):
  Calls Tryz.prog 78 #[v,.int .i64 most] w (Post w fun _ r=>Tells (VecsFew most l) r):=by
 obtain ⟨a,c,rfl,ad,hle,hm⟩:=h.form
 unfold maxLen at hm
 have HL:=Lib.hid h
 obtain ⟨i0,hi,_,hz1,_⟩:=info_parts info_ints
 have Q:=Lib.hid (idx_one Tryz.underlying79 hi hz1 ad)
 clear h hi hz1 ad
 by_cases hlen:most<l.length
 ·have d1:decide ((most:Int)<(l.length:Int))=true:=decide_eq_true (by omega)
  go_enter Tryz.func78,Tryz.ntmps78
  go_wp2
  go_ret
  exact .same .no
 have d1:decide ((most:Int)<(l.length:Int))=false:=decide_eq_false (by omega)
 go_enter Tryz.func78,Tryz.ntmps78
 go_wp2
 go_loopw [5] (fun i wr=>∃k:Nat,k≤l.length∧i=.int .i64 k∧Below w.heap.size w wr∧Hid (∀j,j<k→(nthL l j).length≤10)) (fun i _=>l.length - (intOf i).toNat)
 case atStart=>exact ⟨0,Nat.zero_le _,rfl,.refl _ _,Lib.hid fun j hj=>by omega⟩
 case round=>
  obtain ⟨k,hk,rfl,hb,H⟩:=hrel
  by_cases hlt:k<l.length
  case neg=>
   have HF:Hid (VecsFew most l):=Lib.hid ⟨by omega,fun r hr=>by obtain ⟨j,hj,rfl⟩:=mem_nthL hr;exact H.out j (by omega)⟩
   go_wp2
   go_ret
   exact .mk hb (.yes HF.out)
  have q:=Q.out k hlt
  obtain ⟨u,cu,iu⟩:=HL.out.at hb hlt
  have bu:=World.block_lt_of_cell? _ _ cu
  obtain ⟨ua,uc,rfl,_⟩:=iu.form
  obtain ⟨n,hn⟩:∃n,n=(nthL l k).length:=⟨_,rfl⟩
  rw[←hn]at cu
  have HN:=Lib.hid hn
  clear hn iu
  by_cases h10:10<n
  ·go_wp2
   go_ret
   exact .mk hb .no
  ·have HX:Hid (∀j,j<k+1→(nthL l j).length≤10):=Lib.hid fun j hj=>by
    by_cases e:j=k
    ·rw[e,←HN.out];omega
    ·exact H.out j (by omega)
   go_wp2
   go_roundw
   case rel=>exact ⟨k+1,by omega,by go_num,hb,HX⟩
   case measure=>simp[intOf];omega
theorem fewT_calls {S:Nat→Prop} {w:World} {vc:Value} {cs:List CaseD} (n ins outs:Int) (h:Sl kCase S w vc cs):
  Calls Tryz.prog 55 #[.agg #[.int .i64 n,.int .i64 ins,.int .i64 outs,vc]] w (Post w fun _ r=>Tells (TaskFew cs) r):=by
 obtain ⟨ca,cc,rfl,ad,_⟩:=h.form2
 have hfw:=h.few
 have H1:=Lib.hid h
 obtain ⟨i0,hi,_,hz1,_⟩:=info_parts info_caseB
 have Q1:=Lib.hid (idx_wide Tryz.underlying22 hi hz1 ad)
 clear h hi hz1 ad
 have ex:=ext_alloc w (.cells #[.int .i64 n,.int .i64 ins,.int .i64 outs,.slice ca cs.length cc] 24)
 have R1:=row_new w [.int .i64 n,.int .i64 ins,.int .i64 outs,.slice ca cs.length cc] 24
 have t3:=R1.cell (j:=3) rfl
 by_cases hlen:30<cs.length
 ·go_enter Tryz.func55,Tryz.ntmps55
  go_wp2
  go_ret
  exact .mk ex .no
 go_enter Tryz.func55,Tryz.ntmps55
 go_wp2
 clear t3
 go_loopw [3,4] (fun i _ wr=>∃k:Nat,k≤cs.length∧i=.int .i64 k∧Below w.heap.size w wr∧Row wr w.heap.size 24 [.int .i64 n,.int .i64 ins,.int .i64 outs,.slice ca cs.length cc]∧Hid (∀j,j<k→CaseFew (nthC cs j))) (fun i _ _=>cs.length - (intOf i).toNat)
 case atStart=>exact ⟨0,Nat.zero_le _,rfl,ex,R1,Lib.hid fun j hj=>by omega⟩
 case round=>
  clear ex R1
  obtain ⟨k,hk,rfl,hb,R1,H⟩:=hrel
  have t3:=R1.cell (j:=3) rfl
  have l1:=R1.lt
  by_cases hlt:k<cs.length
  case neg=>
   have HF:Hid (TaskFew cs):=Lib.hid ⟨by omega,fun j hj=>H.out j (by omega)⟩
   go_wp2
   go_ret
   exact .mk hb (.yes HF.out)
  have q1:=Q1.out k hlt
  obtain ⟨x1,x2,x3,z1,z2,z3,i1,i2,i3⟩:=(H1.out.ext hb).case hlt
  have b1:=World.block_lt_of_cell? _ _ z1
  obtain ⟨xa1,xc1,rfl,_⟩:=i1.form
  obtain ⟨xa2,xc2,rfl,_⟩:=i2.form
  obtain ⟨xa3,xc3,rfl,_⟩:=i3.form
  have KV1:Hid (∀W,Below wr.heap.size wr W→Calls Tryz.prog 78 #[.slice xa2 (nthC cs k).out.length xc2,.int .i64 30] W (Post W fun _ r=>Tells (VecsFew 30 (nthC cs k).out) r)):=Lib.hid fun W hW=>fewV_calls (i2.ext hW) 30
  have KV2:Hid (∀W,Below wr.heap.size wr W→Calls Tryz.prog 78 #[.slice xa3 (nthC cs k).calm.length xc3,.int .i64 30] W (Post W fun _ r=>Tells (VecsFew 30 (nthC cs k).calm) r)):=Lib.hid fun W hW=>fewV_calls (i3.ext hW) 30
  obtain ⟨cd,hcd⟩:∃cd,cd=nthC cs k:=⟨_,rfl⟩
  rw[←hcd]at z1 z2 z3 KV1 KV2
  obtain ⟨n1,hn1⟩:∃n,n=cd.inn.length:=⟨_,rfl⟩
  obtain ⟨n2,hn2⟩:∃n,n=cd.out.length:=⟨_,rfl⟩
  obtain ⟨n3,hn3⟩:∃n,n=cd.calm.length:=⟨_,rfl⟩
  rw[←hn1]at z1
  rw[←hn2]at z2 KV1
  rw[←hn3]at z3 KV2
  have HCD:=Lib.hid (And.intro hcd hn1)
  have RX:=row_new wr [.slice xa1 n1 xc1,.slice xa2 n2 xc2,.slice xa3 n3 xc3] 123
  have hx:=ext_alloc wr (.cells #[.slice xa1 n1 xc1,.slice xa2 n2 xc2,.slice xa3 n3 xc3] 123)
  have R1b:=R1.alloc (.cells #[.slice xa1 n1 xc1,.slice xa2 n2 xc2,.slice xa3 n3 xc3] 123)
  clear hcd hn1 hn2 hn3 i1 i2 i3
  have y0:=RX.cell (j:=0) rfl
  have y1:=RX.cell (j:=1) rfl
  by_cases h10:10<n1
  ·go_wp2
   go_ret
   exact .mk (ext_trans hb hx) .no
  go_wp2_with fail
  refine (KV1.out _ hx).mono ?_
  rintro _ w2 ⟨_,rfl,hb2,b,rfl,hbt⟩
  replace RX:=RX.ext hb2
  replace R1b:=R1b.ext hb2
  replace hx:=ext_trans hx hb2
  have HBT:=Lib.hid hbt
  clear t3 l1 q1 z1 z2 z3 b1 y0 y1 hb2 KV1 hbt
  cases b with
  | false=>
   go_wp2
   go_ret
   exact .mk (ext_trans hb hx) .no
  | true=>
   have y2:=RX.cell (j:=2) rfl
   go_wp2_with fail
   refine (KV2.out _ hx).mono ?_
   rintro _ w3 ⟨_,rfl,hb3,b,rfl,hbt⟩
   replace R1b:=R1b.ext hb3
   replace hx:=ext_trans hx hb3
   have HBT2:=Lib.hid hbt
   have hbx:=ext_trans hb hx
   clear y2 hb3 KV2 hbt hx hb R1
   cases b with
   | false=>
    go_wp2
    go_ret
    exact .mk hbx .no
   | true=>
    have HX:Hid (∀j,j<k+1→CaseFew (nthC cs j)):=Lib.hid fun j hj=>by
     by_cases e:j=k
     ·rw[e,←HCD.out.1];exact ⟨by rw[←HCD.out.2];omega,HBT.out (by simp),HBT2.out (by simp)⟩
     ·exact H.out j (by omega)
    go_wp2
    go_roundw
    case rel=>exact ⟨k+1,by omega,by go_num,hbx,R1b,HX⟩
    case measure=>simp[intOf];omega
theorem num_few {p:ProbD} (h:1≤p.cs.length) (hx:p.cs.length * cutW p.st p.rounds.toNat 4096 0≤60):p.num≤60:=by
 unfold ProbD.num
 by_cases hc:4096<cntW p.st p.rounds.toNat 0
 ·have h1:=cutW_gt.2 hc
  have h2:=Nat.mul_le_mul_right (cutW p.st p.rounds.toNat 4096 0) h
  omega
 ·rw[←cutW_eq hc];exact hx
theorem fewP_calls {S S':Nat→Prop} {w:World} {vc vs:Value} {p:ProbD} (hc:Sl kCase S w vc p.cs) (hs:Sl (kSl (kFlat 8)) S' w vs p.st):
  Calls Tryz.prog 30 #[.agg #[.int .i64 p.n,.int .i64 p.ins,.int .i64 p.outs,vc,.int .i64 p.an,vs,.int .i64 p.rounds]] w (Post w fun _ r=>Tells (FewP p) r):=by
 obtain ⟨ca,cc,rfl,_⟩:=hc.form
 obtain ⟨sa,sc,rfl,_⟩:=hs.form
 have KT:Hid (∀W,Below w.heap.size w W→Calls Tryz.prog 55 #[.agg #[.int .i64 p.n,.int .i64 p.ins,.int .i64 p.outs,.slice ca p.cs.length cc]] W (Post W fun _ r=>Tells (TaskFew p.cs) r)):=Lib.hid fun W hW=>fewT_calls _ _ _ (hc.ext hW)
 have KA:Hid (∀W,Below w.heap.size w W→Calls Tryz.prog 56 #[.agg #[.int .i64 p.an,.slice sa p.st.length sc]] W (Post W fun _ r=>r=.bool (fewA p.st))):=Lib.hid fun W hW=>rfewA_calls _ (hs.ext hW)
 have KC:Hid (∀W,Below w.heap.size w W→Calls Tryz.prog 57 #[.agg #[.int .i64 p.n,.int .i64 p.ins,.int .i64 p.outs,.slice ca p.cs.length cc,.int .i64 p.an,.slice sa p.st.length sc,.int .i64 p.rounds]] W (Post W fun _ r=>r=.int .i64 (checkPr p))):=Lib.hid fun W hW=>rcheckPr_calls (hc.ext hW) (hs.ext hW)
 have KN:Hid (checkPr p=0→∀W,Below w.heap.size w W→Calls Tryz.prog 58 #[.agg #[.int .i64 p.n,.int .i64 p.ins,.int .i64 p.outs,.slice ca p.cs.length cc,.int .i64 p.an,.slice sa p.st.length sc,.int .i64 p.rounds],.int .i64 4096] W (Post W fun _ r=>r=.int .i64 (p.cs.length * cutW p.st p.rounds.toNat 4096 0:Nat))):=Lib.hid fun hz W hW=>rnumber_calls (hc.ext hW) (hs.ext hW) hz 4096 (by omega)
 have ex:=ext_alloc w (.cells #[.int .i64 p.n,.int .i64 p.ins,.int .i64 p.outs,.slice ca p.cs.length cc,.int .i64 p.an,.slice sa p.st.length sc,.int .i64 p.rounds] 29)
 have R1:=row_new w [.int .i64 p.n,.int .i64 p.ins,.int .i64 p.outs,.slice ca p.cs.length cc,.int .i64 p.an,.slice sa p.st.length sc,.int .i64 p.rounds] 29
 obtain ⟨e1,he1⟩:∃e,e=checkPr p:=⟨_,rfl⟩
 rw[←he1]at KC
 have HE1:=Lib.hid he1
 obtain ⟨fa,hfa⟩:∃fa,fa=fewA p.st:=⟨_,rfl⟩
 rw[←hfa]at KA
 have HFA:=Lib.hid hfa
 clear hc hs he1 hfa
 go_enter Tryz.func30,Tryz.ntmps30
 go_wp2_with fail
 refine (KT.out _ ex).mono ?_
 rintro _ w1 ⟨_,rfl,hb1,b,rfl,hbt⟩
 replace R1:=R1.ext hb1
 replace ex:=ext_trans ex hb1
 have HBT:=Lib.hid hbt
 clear hb1 KT hbt
 cases b with
 | false=>
  go_wp2
  go_ret
  exact .mk ex .no
 | true=>
  have HT:Hid (TaskFew p.cs):=Lib.hid (HBT.out (by simp))
  have c4:=R1.cell (j:=4) rfl
  have c5:=R1.cell (j:=5) rfl
  clear HBT
  go_wp2_with fail
  refine (KA.out _ ex).mono ?_
  rintro _ w2 ⟨_,rfl,hb2,rfl⟩
  replace R1:=R1.ext hb2
  replace ex:=ext_trans ex hb2
  clear c4 c5 hb2 KA
  cases fa with
  | false=>
   go_wp2
   go_ret
   exact .mk ex .no
  | true=>
   have c0:=R1.cell (j:=0) rfl
   have c1:=R1.cell (j:=1) rfl
   have c2:=R1.cell (j:=2) rfl
   have c3:=R1.cell (j:=3) rfl
   have c4:=R1.cell (j:=4) rfl
   have c5:=R1.cell (j:=5) rfl
   have c6:=R1.cell (j:=6) rfl
   have lR:=R1.lt
   obtain ⟨n,hn⟩:∃n,n=p.n:=⟨_,rfl⟩
   have HNN:=Lib.hid hn
   by_cases h3:3<p.n∧p.n≤5
   ·obtain ⟨h31,h32⟩:=h3
    clear hn
    go_wp2
    go_ret
    exact .mk ex .no
   have HN3:=Lib.hid h3
   have fin:∀(Q:World→Prop),(3<p.n→¬p.n≤5→Q w)→(¬3<p.n→Q w)→Q w:=fun Q h1 h2=>by
    by_cases h:3<p.n
    ·exact h1 h fun h'=>h3 ⟨h,h'⟩
    ·exact h2 h
   clear h3 fin hn
   by_cases h3:3<p.n
   ·have h5:¬p.n≤5:=fun h=>HN3.out ⟨h3,h⟩
    go_wp2_with fail
    refine (KC.out _ ex).mono ?_
    rintro _ w3 ⟨_,rfl,hb3,rfl⟩
    replace ex:=ext_trans ex hb3
    clear c0 c1 c2 c3 c4 c5 c6 lR KC hb3
    by_cases h1:e1=0
    ·exfalso
     obtain ⟨N,hok⟩:=probOK (show checkPr p=0 by rw[←HE1.out];exact h1)
     have:=hok.n;have:=hok.n1;omega
    ·have d1:(e1 !=0)=true:=by simp[h1]
     have HF:Hid (FewP p):=Lib.hid ⟨HT.out,HFA.out.symm,HN3.out,fun h=>absurd (by rw[HE1.out];exact h) h1⟩
     clear h1
     go_wp2
     go_ret
     exact .mk ex (.yes HF.out)
   ·go_wp2_with fail
    refine (KC.out _ ex).mono ?_
    rintro _ w3 ⟨_,rfl,hb3,rfl⟩
    replace R1:=R1.ext hb3
    replace ex:=ext_trans ex hb3
    clear c0 c1 c2 c3 c4 c5 c6 lR KC hb3
    by_cases h1:e1=0
    case neg=>
     have d1:(e1 !=0)=true:=by simp[h1]
     have HF:Hid (FewP p):=Lib.hid ⟨HT.out,HFA.out.symm,HN3.out,fun h=>absurd (by rw[HE1.out];exact h) h1⟩
     clear h1
     go_wp2
     go_ret
     exact .mk ex (.yes HF.out)
    have HZ:Hid (checkPr p=0):=Lib.hid (by rw[←HE1.out];exact h1)
    have d1:(e1 !=0)=false:=by simp[h1]
    clear h1
    have c0:=R1.cell (j:=0) rfl
    have c1:=R1.cell (j:=1) rfl
    have c2:=R1.cell (j:=2) rfl
    have c3:=R1.cell (j:=3) rfl
    have c4:=R1.cell (j:=4) rfl
    have c5:=R1.cell (j:=5) rfl
    have c6:=R1.cell (j:=6) rfl
    have lR:=R1.lt
    go_wp2_with fail
    refine (KN.out HZ.out _ ex).mono ?_
    rintro _ w4 ⟨_,rfl,hb4,rfl⟩
    replace ex:=ext_trans ex hb4
    clear c0 c1 c2 c3 c4 c5 c6 lR KN hb4 d1
    have hcl:1≤p.cs.length:=by obtain ⟨N,hok⟩:=probOK HZ.out;exact hok.c1.1
    have htest:=num_test (p:=p) hcl
    have hfew:=num_few (p:=p) hcl
    obtain ⟨q,hq⟩:∃q,q=p.cs.length * cutW p.st p.rounds.toNat 4096 0:=⟨_,rfl⟩
    rw[←hq]at htest hfew ⊢
    have HTE:=Lib.hid (And.intro htest hfew)
    clear hq htest hfew
    by_cases h60:q≤60
    ·have HF:Hid (FewP p):=Lib.hid ⟨HT.out,HFA.out.symm,HN3.out,fun _=>.inl (HTE.out.2 h60)⟩
     have g1:decide ((q:Int)≤60)=true:=decide_eq_true (by omega)
     go_wp2
     go_ret
     exact .mk ex (.yes HF.out)
    ·have g1:decide ((q:Int)≤60)=false:=decide_eq_false (by omega)
     by_cases h40:4096<q
     ·have HF:Hid (FewP p):=Lib.hid ⟨HT.out,HFA.out.symm,HN3.out,fun _=>.inr (HTE.out.1.1 h40)⟩
      have g2:decide ((4096:Int)<(q:Int))=true:=decide_eq_true (by omega)
      go_wp2
      go_ret
      exact .mk ex (.yes HF.out)
     ·have g2:decide ((4096:Int)<(q:Int))=false:=decide_eq_false (by omega)
      go_wp2
      go_ret
      exact .mk ex .no
end Go.Proofs.YtaijafjfafbcfaaGreat
namespace Go.Proofs.YtaijafjfafbcfaaGreat
open Go.RowKit
attribute [local go_sem ↓] Go.wp_at_zero Go.wp_at_succ
def RightP (p:ProbD):Prop:=FewP p∧buildE p=0
theorem right_calls {S S':Nat→Prop} {w:World} {vc vs:Value} {p:ProbD} (hc:Sl kCase S w vc p.cs) (hs:Sl (kSl (kFlat 8)) S' w vs p.st):
  Calls Tryz.prog 48 #[.agg #[.int .i64 p.n,.int .i64 p.ins,.int .i64 p.outs,vc,.int .i64 p.an,vs,.int .i64 p.rounds]] w (Post w fun _ r=>Tells (RightP p) r):=by
 have hs':=hs.block.mono (S':=fun b=>S b∨S' b) fun b hb=>.inr hb.1
 have hc':=hc.block.mono (S':=fun b=>S b∨S' b) fun b hb=>.inl hb.1
 obtain ⟨ca,cc,rfl,_⟩:=hc.form
 obtain ⟨sa,sc,rfl,_⟩:=hs.form
 have KF:Hid (∀W,Below w.heap.size w W→Calls Tryz.prog 30 #[.agg #[.int .i64 p.n,.int .i64 p.ins,.int .i64 p.outs,.slice ca p.cs.length cc,.int .i64 p.an,.slice sa p.st.length sc,.int .i64 p.rounds]] W (Post W fun _ r=>Tells (FewP p) r)):=Lib.hid fun W hW=>fewP_calls (hc.ext hW) (hs.ext hW)
 have KB:Hid (SmallP p→∀W,Below w.heap.size w W→Calls Tryz.prog 61 #[.agg #[.int .i64 p.n,.int .i64 p.ins,.int .i64 p.outs,.slice ca p.cs.length cc,.int .i64 p.an,.slice sa p.st.length sc,.int .i64 p.rounds]] W (Post W (BuildR p))):=Lib.hid fun hf W hW=>rbuild_calls (hc'.ext hW) (hs'.ext hW) hf
 have ex:=ext_alloc w (.cells #[.int .i64 p.n,.int .i64 p.ins,.int .i64 p.outs,.slice ca p.cs.length cc,.int .i64 p.an,.slice sa p.st.length sc,.int .i64 p.rounds] 29)
 have R1:=row_new w [.int .i64 p.n,.int .i64 p.ins,.int .i64 p.outs,.slice ca p.cs.length cc,.int .i64 p.an,.slice sa p.st.length sc,.int .i64 p.rounds] 29
 clear hc hs hc' hs'
 have c0:=R1.cell (j:=0) rfl
 have c1:=R1.cell (j:=1) rfl
 have c2:=R1.cell (j:=2) rfl
 have c3:=R1.cell (j:=3) rfl
 have c4:=R1.cell (j:=4) rfl
 have c5:=R1.cell (j:=5) rfl
 have c6:=R1.cell (j:=6) rfl
 have l1:=R1.lt
 go_enter Tryz.func48,Tryz.ntmps48
 go_wp2_with fail
 refine (KF.out _ ex).mono ?_
 rintro _ w1 ⟨_,rfl,hb1,b,rfl,hbt⟩
 clear c0 c1 c2 c3 c4 c5 c6 l1 KF
 replace R1:=R1.ext hb1
 replace ex:=ext_trans ex hb1
 have HBT:=Lib.hid hbt
 clear hb1 hbt
 have c0:=R1.cell (j:=0) rfl
 have c1:=R1.cell (j:=1) rfl
 have c2:=R1.cell (j:=2) rfl
 have c3:=R1.cell (j:=3) rfl
 have c4:=R1.cell (j:=4) rfl
 have c5:=R1.cell (j:=5) rfl
 have c6:=R1.cell (j:=6) rfl
 have l1:=R1.lt
 cases b with
 | false=>
  go_wp2
  go_ret
  exact .mk ex .no
 | true=>
  have HP:Hid (FewP p):=Lib.hid (HBT.out (by simp))
  clear HBT
  go_wp2_with fail
  refine (KB.out HP.out.few.small _ ex).mono ?_
  rintro _ w2 ⟨r,rfl,hb2,hr⟩
  replace ex:=ext_trans ex hb2
  clear c0 c1 c2 c3 c4 c5 c6 l1 KB R1 hb2
  rcases hr with ⟨h0,v,rfl,hv⟩ | ⟨h0,rfl⟩
  case inr=>
   obtain ⟨y,hy⟩:∃y,y=buildE p:=⟨_,rfl⟩
   rw[←hy]at h0 ⊢
   have d1:(y==0)=false:=by simp[h0]
   clear hy h0
   unfold zeroSys
   go_wp2
   go_ret
   exact .mk (ext_alloc' ex _) .no
  have HF:Hid (RightP p):=Lib.hid ⟨HP.out,h0⟩
  obtain ⟨vc2,vs2,vt2,vx2,rfl,hc2,hs2,ht2,hx2⟩:=hv
  obtain ⟨ca2,cc2,rfl,_⟩:=hc2.form
  obtain ⟨sa2,sc2,rfl,_⟩:=hs2.form
  obtain ⟨ta2,tc2,rfl,_⟩:=ht2.form
  obtain ⟨xa2,xc2,rfl,_⟩:=hx2.form
  clear h0 hc2 hs2 ht2 hx2
  go_wp2
  go_ret
  exact .mk (ext_alloc' ex _) (.yes HF.out)
end Go.Proofs.YtaijafjfafbcfaaGreat
namespace Go.Proofs.YtaijafjfafbcfaaGreat
theorem nthL_prefix {t t':List (List Int)} (h:t<+:t') {v:Nat} (hv:v<t.length):nthL t' v=nthL t v:=by
 obtain ⟨r,rfl⟩:=h
 simp[nthL,List.getElem?_append_left hv]
theorem nth_app {l r:List Int} {i:Nat} (h:i<l.length):nth (l++r) i=nth l i:=by simp[nth,List.getElem?_append_left h]
theorem nth_last {l:List Int} {x:Int}:nth (l++[x]) l.length=x:=by simp[nth]
theorem nthL_app {l r:List (List Int)} {i:Nat} (h:i<l.length):nthL (l++r) i=nthL l i:=nthL_prefix (List.prefix_append _ _) h
theorem nthL_last {l:List (List Int)} {x:List Int}:nthL (l++[x]) l.length=x:=by simp[nthL]
def Refs (t:List (List Int)):Prop:=∀v,v<t.length→∀j,j<5→nth (nthL t v) (3+j)<v
theorem Refs.add {t:List (List Int)} {x:List Int} (h:Refs t) (hx:∀j,j<5→nth x (3+j)<t.length):Refs (addV t x):=by
 unfold addV
 split
 ·exact h
 ·intro v hv j hj
  rw[List.length_append,List.length_singleton]at hv
  by_cases e:v<t.length
  ·rw[nthL_app e];exact h v e j hj
  ·have e2:v=t.length:=by omega
   subst e2
   rw[nthL_last];exact hx j hj
theorem layV_at (mk:Nat→List Int) (t:List (List Int)):∀q i,i<q→∃u:Nat,u<(layV mk t q).1.length∧nth (layV mk t q).2 i=u∧nthL (layV mk t q).1 u=mk i
 | 0,i,h=>by omega
 | q+1,i,h=>by
  unfold layV
  have hl:=layV_len mk t q
  by_cases e:i<q
  ·obtain ⟨u,h1,h2,h3⟩:=layV_at mk t q i e
   have hp:=addV_prefix (layV mk t q).1 (mk q)
   exact ⟨u,Nat.lt_of_lt_of_le h1 hp.length_le,by rw[nth_app (by omega)];exact h2,by rw[nthL_prefix hp h1];exact h3⟩
  ·have e2:i=q:=by omega
   subst e2
   refine ⟨idxV (layV mk t i).1 (mk i),idxV_lt _ _,?_,addV_get _ _⟩
   have:=nth_last (l:=(layV mk t i).2) (x:=((idxV (layV mk t i).1 (mk i):Nat):Int))
   rw[hl]at this;exact this
theorem layV_new (mk:Nat→List Int) (t:List (List Int)):∀q v,v<(layV mk t q).1.length→v<t.length∨∃i,i<q∧nth (layV mk t q).2 i=(v:Nat)
 | 0,v,h=>.inl h
 | q+1,v,h=>by
  unfold layV at h ⊢
  have hl:=layV_len mk t q
  by_cases e:v<(layV mk t q).1.length
  ·rcases layV_new mk t q v e with h1 | ⟨i,h1,h2⟩
   ·exact .inl h1
   ·exact .inr ⟨i,by omega,by rw[nth_app (by omega)];exact h2⟩
  ·refine .inr ⟨q,by omega,?_⟩
   have h3:=addV_len (layV mk t q).1 (mk q)
   have h4:v=(layV mk t q).1.length:=by dsimp only at h;omega
   have h5:mk q∉(layV mk t q).1:=fun hm=>by
    unfold addV at h;rw[if_pos hm]at h;exact e h
   have:=nth_last (l:=(layV mk t q).2) (x:=((idxV (layV mk t q).1 (mk q):Nat):Int))
   rw[hl]at this
   rw[this,idxV_not h5,h4]
theorem layV_nodup (mk:Nat→List Int) {t:List (List Int)} (h:t.Nodup):∀q,(layV mk t q).1.Nodup
 | 0=>h
 | q+1=>by unfold layV;exact addV_nodup (layV_nodup mk h q)
theorem layV_refs (mk:Nat→List Int) {t:List (List Int)} (h:Refs t):∀q,(∀i,i<q→∀j,j<5→nth (mk i) (3+j)<t.length)→Refs (layV mk t q).1
 | 0,_=>h
 | q+1,hm=>by
  unfold layV
  refine (layV_refs mk h q fun i hi=>hm i (by omega)).add fun j hj=>?_
  have h1:=hm q (by omega) j hj
  have h2:=(layV_prefix mk t q).length_le
  omega
def vwE (n:Nat) (inn:List Int) (word vs:List (List Int)):Nat→Nat→List Int
 | 0,q=>firstV q (nth inn q)
 | k+1,q=>seenV (nthL word k) n (k+1) q (nthL vs k)
structure PlayOK (n:Nat) (inn:List Int) (word t:List (List Int)) (K:Nat) (T vs:List (List Int)):Prop where
 pre:t<+:T
 len:vs.length=K+1
 rows:∀k,k≤K→(nthL vs k).length=n
 at':∀k,k≤K→∀q,q<n→∃u:Nat,u<T.length∧nth (nthL vs k) q=u∧nthL T u=vwE n inn word vs k q
 new:∀v,v<T.length→v<t.length∨∃k,k≤K∧∃q,q<n∧nth (nthL vs k) q=(v:Nat)
 nodup:t.Nodup→T.Nodup
 refs:Refs t→Refs T
theorem heardV_lt {g prev:List Int} {n q r m:Nat} (h:∀q,q<n→nth prev q<(m:Int)):heardV g n q prev r<(m:Int):=by
 unfold heardV
 split
 ·rename_i h1;exact h r h1.1
 ·omega
theorem nth_seenV {g prev:List Int} {n k q j:Nat} (hj:j<5):nth (seenV g n k q prev) (3+j)=heardV g n q prev j:=by
 have:j=0∨j=1∨j=2∨j=3∨j=4:=by omega
 rcases this with rfl | rfl | rfl | rfl | rfl<;>rfl
theorem nth_firstV {x:Int} {q j:Nat} (hj:j<5):nth (firstV q x) (3+j)= -1:=by
 have:j=0∨j=1∨j=2∨j=3∨j=4:=by omega
 rcases this with rfl | rfl | rfl | rfl | rfl<;>rfl
theorem vwE_app {n:Nat} {inn:List Int} {word vs r:List (List Int)} {k q:Nat} (h:k≤vs.length):vwE n inn word (vs++r) k q=vwE n inn word vs k q:=by
 cases k with
 | zero=>rfl
 | succ k=>show seenV (nthL word k) n (k+1) q (nthL (vs++r) k)=seenV (nthL word k) n (k+1) q (nthL vs k);rw[nthL_app (by omega)]
theorem playV_ok (n:Nat) (inn:List Int) (word t:List (List Int)):∀K,PlayOK n inn word t K (playV n inn word t K).1 (playV n inn word t K).2
 | 0=>by
  unfold playV
  refine ⟨layV_prefix _ _ _,rfl,fun k hk=>?_,fun k hk q hq=>?_,fun v hv=>?_,fun h=>layV_nodup _ h _,fun h=>layV_refs _ h _ fun i hi j hj=>?_⟩
  ·have:k=0:=by omega
   subst this
   exact layV_len _ _ _
  ·have:k=0:=by omega
   subst this
   exact layV_at (fun q=>firstV q (nth inn q)) t n q hq
  ·rcases layV_new (fun q=>firstV q (nth inn q)) t n v hv with h | ⟨i,h1,h2⟩
   ·exact .inl h
   ·exact .inr ⟨0,Nat.le_refl _,i,h1,h2⟩
  ·rw[nth_firstV hj];omega
 | K+1=>by
  have ih:=playV_ok n inn word t K
  unfold playV
  generalize (playV n inn word t K).1=T at ih ⊢
  generalize (playV n inn word t K).2=vs at ih ⊢
  have hpre:=layV_prefix (fun q=>seenV (nthL word K) n (K+1) q (nthL vs K)) T n
  have hlen:=layV_len (fun q=>seenV (nthL word K) n (K+1) q (nthL vs K)) T n
  have hat:=layV_at (fun q=>seenV (nthL word K) n (K+1) q (nthL vs K)) T n
  have hnew:=layV_new (fun q=>seenV (nthL word K) n (K+1) q (nthL vs K)) T n
  have hnd:T.Nodup→(layV (fun q=>seenV (nthL word K) n (K+1) q (nthL vs K)) T n).1.Nodup:=fun h=>layV_nodup _ h n
  have hrf:Refs T→Refs (layV (fun q=>seenV (nthL word K) n (K+1) q (nthL vs K)) T n).1:=fun h=>layV_refs _ h n fun i hi j hj=>by
   rw[nth_seenV hj]
   exact heardV_lt fun q hq=>by obtain ⟨u,h1,h2,_⟩:=ih.at' K (Nat.le_refl _) q hq;omega
  generalize layV (fun q=>seenV (nthL word K) n (K+1) q (nthL vs K)) T n=L at hpre hlen hat hnew hnd hrf ⊢
  have hold:∀k,k≤K→nthL (vs++[L.2]) k=nthL vs k:=fun k hk=>nthL_app (by have:=ih.len;omega)
  have hlast:nthL (vs++[L.2]) (K+1)=L.2:=by have:=nthL_last (l:=vs) (x:=L.2);rw[ih.len]at this;exact this
  refine ⟨ih.pre.trans hpre,by simp[ih.len],fun k hk=>?_,fun k hk q hq=>?_,fun v hv=>?_,fun h=>hnd (ih.nodup h),fun h=>hrf (ih.refs h)⟩
  ·by_cases e:k≤K
   ·rw[hold k e];exact ih.rows k e
   ·have:k=K+1:=by omega
    subst this
    rw[hlast];exact hlen
  ·by_cases e:k≤K
   ·obtain ⟨u,h1,h2,h3⟩:=ih.at' k e q hq
    exact ⟨u,Nat.lt_of_lt_of_le h1 hpre.length_le,by rw[hold k e];exact h2,by rw[nthL_prefix hpre h1,vwE_app (by have:=ih.len;omega)];exact h3⟩
   ·have:k=K+1:=by omega
    subst this
    obtain ⟨u,h1,h2,h3⟩:=hat q hq
    exact ⟨u,h1,by rw[hlast];exact h2,by rw[vwE_app (by have:=ih.len;omega)];exact h3⟩
  ·rcases hnew v hv with h | ⟨i,h1,h2⟩
   ·rcases ih.new v h with h | ⟨k,h1,q,h2,h3⟩
    ·exact .inl h
    ·exact .inr ⟨k,by omega,q,h2,by rw[hold k h1];exact h3⟩
   ·exact .inr ⟨K+1,Nat.le_refl _,i,h1,by rw[hlast];exact h2⟩
structure ExOK (n K:Nat) (cs:List CaseD) (T:List (List Int)) (x:ExecD) (c:Nat):Prop where
 case:x.case=c
 clt:c<cs.length
 word:x.word.length=K
 len:x.vs.length=K+1
 rows:∀k,k≤K→(nthL x.vs k).length=n
 at':∀k,k≤K→∀q,q<n→∃u:Nat,u<T.length∧nth (nthL x.vs k) q=u∧nthL T u=vwE n (nthC cs c).inn x.word x.vs k q
theorem ExOK.grow {n K:Nat} {cs:List CaseD} {T T':List (List Int)} {x:ExecD} {c:Nat} (h:ExOK n K cs T x c) (hp:T<+:T'):ExOK n K cs T' x c:=
 ⟨h.case,h.clt,h.word,h.len,h.rows,fun k hk q hq=>by
  obtain ⟨u,h1,h2,h3⟩:=h.at' k hk q hq
  exact ⟨u,Nat.lt_of_lt_of_le h1 hp.length_le,h2,by rw[nthL_prefix hp h1];exact h3⟩⟩
structure RunOK (n K:Nat) (cs:List CaseD) (a:List (List Int)×List ExecD):Prop where
 ex:∀x∈a.2,∃c,ExOK n K cs a.1 x c
 occ:∀v,v<a.1.length→∃x∈a.2,∃k,k≤K∧∃q,q<n∧nth (nthL x.vs k) q=(v:Nat)
 nodup:a.1.Nodup
 refs:Refs a.1
theorem RunOK.step {n K:Nat} {cs:List CaseD} {a:List (List Int)×List ExecD} (h:RunOK n K cs a) (x:Nat×List (List Int)) (hx:x.1<cs.length∧x.2.length=K):RunOK n K cs (stepE n cs a x):=by
 have hp:=playV_ok n (nthC cs x.1).inn x.2 a.1 x.2.length
 rw[hx.2]at hp
 unfold stepE
 rw[hx.2]
 generalize playV n (nthC cs x.1).inn x.2 a.1 K=P at hp ⊢
 refine ⟨fun y hy=>?_,fun v hv=>?_,hp.nodup h.nodup,hp.refs h.refs⟩
 ·rcases List.mem_append.1 hy with hy | hy
  ·obtain ⟨c,hc⟩:=h.ex y hy
   exact ⟨c,hc.grow hp.pre⟩
  ·rw[List.mem_singleton.1 hy]
   exact ⟨x.1,rfl,hx.1,hx.2,hp.len,hp.rows,hp.at'⟩
 ·rcases hp.new v hv with h1 | ⟨k,h1,q,h2,h3⟩
  ·obtain ⟨y,hy,hr⟩:=h.occ v h1
   exact ⟨y,List.mem_append_left _ hy,hr⟩
  ·exact ⟨_,List.mem_append_right _ (List.mem_singleton.2 rfl),k,h1,q,h2,h3⟩
theorem runE_ok {n K:Nat} {cs:List CaseD} {l:List (Nat×List (List Int))} (h:∀x∈l,x.1<cs.length∧x.2.length=K):RunOK n K cs (runE n cs l):=by
 have key:∀(l:List (Nat×List (List Int))) (a:List (List Int)×List ExecD),RunOK n K cs a→(∀x∈l,x.1<cs.length∧x.2.length=K)→RunOK n K cs (l.foldl (stepE n cs) a):=by
  intro l
  induction l with
  | nil=>intro a h _;exact h
  | cons x r ih=>intro a h hx;rw[List.foldl_cons];exact ih _ (h.step x (hx x (by simp))) fun y hy=>hx y (by simp[hy])
 exact key l _ ⟨fun x hx=>by simp at hx,fun v hv=>by simp at hv,by simp,fun v hv=>by simp at hv⟩ h
theorem runE_words (n:Nat) (cs:List CaseD) (l:List (Nat×List (List Int))):(runE n cs l).2.map (fun x=>(x.case,x.word))=l.map fun x=>((x.1:Int),x.2):=by
 have key:∀(l:List (Nat×List (List Int))) (a:List (List Int)×List ExecD),(l.foldl (stepE n cs) a).2.map (fun x=>(x.case,x.word))=a.2.map (fun x=>(x.case,x.word))++l.map fun x=>((x.1:Int),x.2):=by
  intro l
  induction l with
  | nil=>intro a;simp
  | cons x r ih=>intro a;rw[List.foldl_cons,ih];simp[stepE,ExecD.case,ExecD.word]
 have:=key l ([],[])
 unfold runE
 rw[this];rfl
structure GoodS (s:SysF) (N K:Nat):Prop where
 pok:ProbOK s.p N
 tn:s.tn=N
 rnd:s.p.rounds=K
 K6:K≤6
 ex:∀e,e<s.ex.length→∃c,ExOK N K s.p.cs s.tab (nthX s.ex e) c
 words:∀e,e<s.ex.length→∀k,k<K→RoundOK N (nthL (nthX s.ex e).word k)
 occ:∀v,v<s.tab.length→∃e,e<s.ex.length∧∃k,k≤K∧∃q,q<N∧nth (nthL (nthX s.ex e).vs k) q=(v:Nat)
 nodup:s.tab.Nodup
 refs:Refs s.tab
 num:s.ex.length=s.p.num
theorem good_of {s:SysF} (h:verE s=0) (h8:Moves8 s.p.st):∃N K,GoodS s N K:=by
 unfold verE at h
 by_cases h0:buildE s.p=0
 case neg=>rw[if_neg h0]at h;exact absurd h h0
 rw[if_pos h0]at h
 by_cases h1:s.tn=s.p.n∧s.tab=s.p.sys.1∧s.ex=s.p.sys.2
 case neg=>rw[if_neg h1]at h;cases h
 have hz:checkPr s.p=0:=by
  unfold buildE at h0
  by_cases hc:checkPr s.p=0
  ·exact hc
  ·rw[if_neg hc]at h0;exact h0
 obtain ⟨N,hok⟩:=probOK hz
 obtain ⟨K,hK⟩:∃K:Nat,s.p.rounds=K:=⟨s.p.rounds.toNat,by have:=hok.r;omega⟩
 have eN:s.p.n.toNat=N:=by rw[hok.n];exact Int.toNat_natCast N
 have eK:s.p.rounds.toNat=K:=by rw[hK];exact Int.toNat_natCast K
 obtain ⟨h2,h3,h4⟩:=h1
 have hrun:RunOK N K s.p.cs (s.tab,s.ex):=by
  rw[h3,h4]
  have:=runE_ok (n:=N) (K:=K) (cs:=s.p.cs) (l:=s.p.pairs) fun x hx=>⟨s.p.pairs_case x hx,by rw[s.p.pairs_word x hx,eK]⟩
  unfold ProbD.sys
  rw[eN];exact this
 refine ⟨N,K,hok,by rw[h2,hok.n],hK,by have:=hok.r;omega,fun e he=>hrun.ex _ (nthX_mem he),fun e he k hk=>?_,fun v hv=>?_,hrun.nodup,hrun.refs,?_⟩
 ·have hm:=runE_words s.p.n.toNat s.p.cs s.p.pairs
  have hx:((nthX s.ex e).case,(nthX s.ex e).word)∈s.p.pairs.map fun x=>((x.1:Int),x.2):=by
   rw[←hm];exact List.mem_map.2 ⟨_,by have:=nthX_mem he;rw[h4]at this ⊢;exact this,rfl⟩
  obtain ⟨x,hx,he2⟩:=List.mem_map.1 hx
  have e2:x.2=(nthX s.ex e).word:=congrArg Prod.snd he2
  unfold ProbD.pairs pairsW at hx
  obtain ⟨i,hi,hx⟩:=List.mem_flatMap.1 hx
  obtain ⟨w,hw,rfl⟩:=List.mem_map.1 hx
  obtain ⟨c,hc⟩:=hrun.ex _ (nthX_mem he)
  have h5:=hok.words h8 s.p.rounds.toNat w hw (nthL w k) (nthL_mem (by have:=hc.word;rw[←e2]at this;dsimp only at this;omega))
  rw[hok.n]at h5
  rw[←e2];exact h5
 ·obtain ⟨x,hx,hr⟩:=hrun.occ v hv
  obtain ⟨e,he,rfl⟩:=List.getElem_of_mem hx
  exact ⟨e,he,by rw[nthX_eq he];exact hr⟩
 ·rw[h4];unfold ProbD.sys;rw[runE_len];exact s.p.pairs_len
end Go.Proofs.YtaijafjfafbcfaaGreat
