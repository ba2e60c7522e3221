/- Part of the proof that the laws answer true for every input. -/
import Derived.Test.YtaijafjfafbcfaaGreatPXa29
set_option linter.unusedSimpArgs false
set_option linter.unnecessarySimpa false
set_option linter.unusedVariables false
set_option maxRecDepth 100000
set_option maxHeartbeats 40000000
namespace Go.Proofs.YtaijafjfafbcfaaGreat
open Go.RowKit
attribute [local go_sem ↓] Go.wp_at_zero Go.wp_at_succ
theorem rverify_calls {S:Nat→Prop} {w:World} {v:Value} {s:SysF} (h:SysV S w v s) (hsm:SmallP s.p):
  Calls Tryz.prog 39 #[v] w (Post w fun _ r=>r=.int .i64 (verE s)):=by
 have H0:=Lib.hid h
 obtain ⟨vc,vs,vt,vx,hv,hc,hs,ht,hx⟩:=h
 obtain ⟨ca,cc,rfl,_⟩:=hc.form
 obtain ⟨sa,sc,rfl,_⟩:=hs.form
 obtain ⟨ta,tc,rfl,_⟩:=ht.form
 obtain ⟨xa,xc,rfl,_⟩:=hx.form
 subst hv
 have KB:Hid (∀W,Below w.heap.size w W→Calls Tryz.prog 61 #[.agg #[.int .i64 s.p.n,.int .i64 s.p.ins,.int .i64 s.p.outs,.slice ca s.p.cs.length cc,.int .i64 s.p.an,.slice sa s.p.st.length sc,.int .i64 s.p.rounds]] W (Post W (BuildR s.p))):=Lib.hid fun W hW=>rbuild_calls (hc.ext hW) (hs.ext hW) hsm
 obtain ⟨e,he⟩:∃e,e=verE s:=⟨_,rfl⟩
 rw[←he]
 have HV1:Hid (buildE s.p=0→e=if s.tn=s.p.n∧s.tab=s.p.full.tab∧s.ex=s.p.full.ex then 0 else 3):=Lib.hid fun h=>by rw[he];exact verE_ok h
 have HV2:Hid (buildE s.p≠0→e=buildE s.p):=Lib.hid fun h=>by rw[he];exact verE_err h
 clear hc hs ht hx he hsm
 have ex:=ext_alloc w (.cells #[.int .i64 s.p.n,.int .i64 s.p.ins,.int .i64 s.p.outs,.slice ca s.p.cs.length cc,.int .i64 s.p.an,.slice sa s.p.st.length sc,.int .i64 s.p.rounds,.int .i64 s.tn,.slice ta s.tab.length tc,.slice xa s.ex.length xc] 35)
 have R1:=row_new w [.int .i64 s.p.n,.int .i64 s.p.ins,.int .i64 s.p.outs,.slice ca s.p.cs.length cc,.int .i64 s.p.an,.slice sa s.p.st.length sc,.int .i64 s.p.rounds,.int .i64 s.tn,.slice ta s.tab.length tc,.slice xa s.ex.length xc] 35
 have c0:=R1.cell (j:=0) rfl
 have c1:=R1.cell (j:=1) rfl
 have c2:=R1.cell (j:=2) rfl
 have c3:=R1.cell (j:=3) rfl
 have c4:=R1.cell (j:=4) rfl
 have c5:=R1.cell (j:=5) rfl
 have c6:=R1.cell (j:=6) rfl
 have c7:=R1.cell (j:=7) rfl
 have c8:=R1.cell (j:=8) rfl
 have c9:=R1.cell (j:=9) rfl
 have hl1:=R1.lt
 go_enter Tryz.func39,Tryz.ntmps39
 go_wp2_with fail
 refine (KB.out _ ex).mono ?_
 rintro _ w1 ⟨r,rfl,hb1,hr⟩
 clear c0 c1 c2 c3 c4 c5 c6 c7 c8 c9 hl1 KB
 have ex1:=ext_trans ex hb1
 replace R1:=R1.ext hb1
 clear hb1 ex
 rcases hr with ⟨h0,v,rfl,hv⟩ | ⟨h0,rfl⟩
 case inr=>
  have RR:=Lib.hid (HV2.out h0)
  obtain ⟨y,hy⟩:∃y,y=buildE s.p:=⟨_,rfl⟩
  rw[←hy]at RR h0 ⊢
  have d1:(y !=0)=true:=by simp[h0]
  clear hy h0 HV1 HV2
  unfold zeroSys
  go_wp2
  go_ret
  exact .mk (ext_alloc' ex1 _) (int_eq RR.out.symm)
 have RR:=Lib.hid (HV1.out h0)
 clear HV1 HV2 h0
 have HV0:=Lib.hid hv
 obtain ⟨vc2,vs2,vt2,vx2,hvv,hc2,hs2,ht2,hx2⟩:=hv
 obtain ⟨ca2,cc2,rfl,_⟩:=hc2.form
 obtain ⟨sa2,sc2,rfl,_⟩:=hs2.form
 obtain ⟨ta2,tc2,rfl,_⟩:=ht2.form
 obtain ⟨xa2,xc2,rfl,_⟩:=hx2.form
 subst hvv
 have e1:s.p.full.p.n=s.p.n∧s.p.full.p.ins=s.p.ins∧s.p.full.p.outs=s.p.outs∧s.p.full.p.an=s.p.an∧s.p.full.p.rounds=s.p.rounds∧s.p.full.tn=s.p.n:=⟨rfl,rfl,rfl,rfl,rfl,rfl⟩
 rw[e1.1,e1.2.1,e1.2.2.1,e1.2.2.2.1,e1.2.2.2.2.1,e1.2.2.2.2.2]at HV0 ⊢
 clear e1 hc2 hs2 ht2 hx2
 have KS:Hid (∀W,Below w1.heap.size w1 W→Calls Tryz.prog 62 #[.agg #[.int .i64 s.p.n,.int .i64 s.p.ins,.int .i64 s.p.outs,.slice ca s.p.cs.length cc,.int .i64 s.p.an,.slice sa s.p.st.length sc,.int .i64 s.p.rounds,.int .i64 s.tn,.slice ta s.tab.length tc,.slice xa s.ex.length xc],.agg #[.int .i64 s.p.n,.int .i64 s.p.ins,.int .i64 s.p.outs,.slice ca2 s.p.full.p.cs.length cc2,.int .i64 s.p.an,.slice sa2 s.p.full.p.st.length sc2,.int .i64 s.p.rounds,.int .i64 s.p.n,.slice ta2 s.p.full.tab.length tc2,.slice xa2 s.p.full.ex.length xc2]] W (Post W fun _ r=>r=.bool (decide ((s.tn=s.p.n∧s.tab=s.p.full.tab)∧s.ex=s.p.full.ex)))):=Lib.hid fun W hW=>rsameS_calls ((H0.out.ext ex1).ext hW) (HV0.out.ext hW)
 obtain ⟨b1,hb1⟩:∃b,b=decide ((s.tn=s.p.n∧s.tab=s.p.full.tab)∧s.ex=s.p.full.ex):=⟨_,rfl⟩
 have HRR:Hid (e=if b1=true then 0 else 3):=Lib.hid (by
  rw[RR.out,hb1]
  by_cases h:(s.tn=s.p.n∧s.tab=s.p.full.tab)∧s.ex=s.p.full.ex
  ·rw[decide_eq_true h,if_pos rfl,if_pos ⟨h.1.1,h.1.2,h.2⟩]
  ·rw[decide_eq_false h,if_neg (fun h'=>h ⟨⟨h'.1,h'.2.1⟩,h'.2.2⟩)];rfl)
 rw[←hb1]at KS
 clear hb1 RR H0 HV0
 have R2:=row_new w1 [.int .i64 s.p.n,.int .i64 s.p.ins,.int .i64 s.p.outs,.slice ca2 s.p.full.p.cs.length cc2,.int .i64 s.p.an,.slice sa2 s.p.full.p.st.length sc2,.int .i64 s.p.rounds,.int .i64 s.p.n,.slice ta2 s.p.full.tab.length tc2,.slice xa2 s.p.full.ex.length xc2] 35
 have hx3:=ext_alloc w1 (.cells #[.int .i64 s.p.n,.int .i64 s.p.ins,.int .i64 s.p.outs,.slice ca2 s.p.full.p.cs.length cc2,.int .i64 s.p.an,.slice sa2 s.p.full.p.st.length sc2,.int .i64 s.p.rounds,.int .i64 s.p.n,.slice ta2 s.p.full.tab.length tc2,.slice xa2 s.p.full.ex.length xc2] 35)
 replace R1:=R1.alloc (.cells #[.int .i64 s.p.n,.int .i64 s.p.ins,.int .i64 s.p.outs,.slice ca2 s.p.full.p.cs.length cc2,.int .i64 s.p.an,.slice sa2 s.p.full.p.st.length sc2,.int .i64 s.p.rounds,.int .i64 s.p.n,.slice ta2 s.p.full.tab.length tc2,.slice xa2 s.p.full.ex.length xc2] 35)
 have ex2:=ext_alloc' ex1 (.cells #[.int .i64 s.p.n,.int .i64 s.p.ins,.int .i64 s.p.outs,.slice ca2 s.p.full.p.cs.length cc2,.int .i64 s.p.an,.slice sa2 s.p.full.p.st.length sc2,.int .i64 s.p.rounds,.int .i64 s.p.n,.slice ta2 s.p.full.tab.length tc2,.slice xa2 s.p.full.ex.length xc2] 35)
 have c0:=R1.cell (j:=0) rfl
 have c1:=R1.cell (j:=1) rfl
 have c2:=R1.cell (j:=2) rfl
 have c3:=R1.cell (j:=3) rfl
 have c4:=R1.cell (j:=4) rfl
 have c5:=R1.cell (j:=5) rfl
 have c6:=R1.cell (j:=6) rfl
 have c7:=R1.cell (j:=7) rfl
 have c8:=R1.cell (j:=8) rfl
 have c9:=R1.cell (j:=9) rfl
 have d0:=R2.cell (j:=0) rfl
 have d1:=R2.cell (j:=1) rfl
 have d2:=R2.cell (j:=2) rfl
 have d3:=R2.cell (j:=3) rfl
 have d4:=R2.cell (j:=4) rfl
 have d5:=R2.cell (j:=5) rfl
 have d6:=R2.cell (j:=6) rfl
 have d7:=R2.cell (j:=7) rfl
 have d8:=R2.cell (j:=8) rfl
 have d9:=R2.cell (j:=9) rfl
 go_wp2_with fail
 refine (KS.out _ hx3).mono ?_
 rintro _ w3 ⟨_,rfl,hb3,rfl⟩
 replace ex2:=ext_trans ex2 hb3
 clear hb3 R1 R2 c0 c1 c2 c3 c4 c5 c6 c7 c8 c9 d0 d1 d2 d3 d4 d5 d6 d7 d8 d9
 cases b1 with
 | false=>
  have RR:Hid (e=3):=Lib.hid (by rw[HRR.out];rfl)
  go_wp2
  go_ret
  exact .mk ex2 (int_eq RR.out.symm)
 | true=>
  have RR:Hid (e=0):=Lib.hid (by rw[HRR.out];rfl)
  go_wp2
  go_ret
  exact .mk ex2 (int_eq RR.out.symm)
end Go.Proofs.YtaijafjfafbcfaaGreat
namespace Go.Proofs.YtaijafjfafbcfaaGreat
open Go.RowKit
attribute [local go_sem ↓] Go.wp_at_zero Go.wp_at_succ
def Tells (Q:Prop) (r:Value):Prop:=∃b:Bool,r=.bool b∧(b=true→Q)
theorem Tells.no {Q:Prop}:Tells Q (.bool false):=⟨false,rfl,fun h=>by cases h⟩
theorem Tells.yes {Q:Prop} (h:Q):Tells Q (.bool true):=⟨true,rfl,fun _=>h⟩
def VecsFew (most:Nat) (l:List (List Int)):Prop:=l.length≤most∧∀r∈l,r.length≤10
def CaseFew (c:CaseD):Prop:=c.inn.length≤10∧VecsFew 30 c.out∧VecsFew 30 c.calm
def TaskFew (l:List CaseD):Prop:=l.length≤30∧∀k,k<l.length→CaseFew (nthC l k)
structure FewP (p:ProbD):Prop where
 t:TaskFew p.cs
 a:fewA p.st=true
 n:¬(3<p.n∧p.n≤5)
 m:checkPr p=0→p.num≤60∨4096<p.num
theorem mem_nthL {l:List (List Int)} {r:List Int} (h:r∈l):∃k,k<l.length∧nthL l k=r:=by
 obtain ⟨k,hk,rfl⟩:=List.getElem_of_mem h
 exact ⟨k,hk,nthL_eq hk⟩
theorem moves_row {st:Moves} {k:Nat} (h:k<st.length):(nthM st k).length≤movesN st:=by
 have h1:(pairsTo st st.length).length=movesN st:=by rw[pairsTo_all,length_pairsM]
 have h2:=pairsTo_prefix (st:=st) (k:=k) (j:=(nthM st k).length) h
 have h3:=h2.length_le
 rw[length_pairsM,List.length_append,List.length_map,List.length_take]at h3
 omega
theorem FewP.few {p:ProbD} (h:FewP p):PFew p:=by
 have ha:p.st.length≤8∧movesN p.st≤40:=by
  have:=h.a
  unfold fewA at this
  simpa using this
 refine ⟨⟨by have:=h.t.1;omega,fun k hk=>?_,by omega,fun k hk=>by have:=moves_row hk;omega⟩,by omega,fun hz hn=>?_⟩
 ·obtain ⟨h1,h2,h3⟩:=h.t.2 k hk
  exact ⟨by omega,by have:=h2.1;omega,by have:=h3.1;omega,fun r hr=>by have:=h2.2 r hr;omega,fun r hr=>by have:=h3.2 r hr;omega⟩
 ·refine ⟨by rcases h.m hz with h1 | h1<;>omega,?_⟩
  obtain ⟨N,hok⟩:=probOK hz
  have:=hok.n
  have:=hok.n1
  have:=h.n
  omega
structure FewS (s:SysF):Prop where
 p:FewP s.p
 t:s.tab.length≤600
 x:s.ex.length≤70
 e:∀k,k<s.ex.length→(nthX s.ex k).word.length≤10∧VecsFew 10 (nthX s.ex k).vs
theorem fewV_calls {S:Nat→Prop} {w:World} {v:Value} {l:List (List Int)} (h:Lists S w v l) (most:Nat):
  Calls Tryz.prog 78 #[v,.int .i64 most] w (Post w fun _ r=>Tells (VecsFew most l) r):=by
 obtain ⟨a,c,rfl,ad,hle,hm⟩:=h.form
 unfold maxLen at hm
 have HL:=Lib.hid h
 obtain ⟨i0,hi,_,hz1,_⟩:=info_parts info_ints
 have Q:=Lib.hid (idx_one Tryz.underlying79 hi hz1 ad)
 clear h hi hz1 ad
 by_cases hlen:most<l.length
 ·have d1:decide ((most:Int)<(l.length:Int))=true:=decide_eq_true (by omega)
  go_enter Tryz.func78,Tryz.ntmps78
  go_wp2
  go_ret
  exact .same .no
 have d1:decide ((most:Int)<(l.length:Int))=false:=decide_eq_false (by omega)
 go_enter Tryz.func78,Tryz.ntmps78
 go_wp2
 go_loopw [5] (fun i wr=>∃k:Nat,k≤l.length∧i=.int .i64 k∧Below w.heap.size w wr∧Hid (∀j,j<k→(nthL l j).length≤10)) (fun i _=>l.length - (intOf i).toNat)
 case atStart=>exact ⟨0,Nat.zero_le _,rfl,.refl _ _,Lib.hid fun j hj=>by omega⟩
 case round=>
  obtain ⟨k,hk,rfl,hb,H⟩:=hrel
  by_cases hlt:k<l.length
  case neg=>
   have HF:Hid (VecsFew most l):=Lib.hid ⟨by omega,fun r hr=>by obtain ⟨j,hj,rfl⟩:=mem_nthL hr;exact H.out j (by omega)⟩
   go_wp2
   go_ret
   exact .mk hb (.yes HF.out)
  have q:=Q.out k hlt
  obtain ⟨u,cu,iu⟩:=HL.out.at hb hlt
  have bu:=World.block_lt_of_cell? _ _ cu
  obtain ⟨ua,uc,rfl,_⟩:=iu.form
  obtain ⟨n,hn⟩:∃n,n=(nthL l k).length:=⟨_,rfl⟩
  rw[←hn]at cu
  have HN:=Lib.hid hn
  clear hn iu
  by_cases h10:10<n
  ·go_wp2
   go_ret
   exact .mk hb .no
  ·have HX:Hid (∀j,j<k+1→(nthL l j).length≤10):=Lib.hid fun j hj=>by
    by_cases e:j=k
    ·rw[e,←HN.out];omega
    ·exact H.out j (by omega)
   go_wp2
   go_roundw
   case rel=>exact ⟨k+1,by omega,by go_num,hb,HX⟩
   case measure=>simp[intOf];omega
theorem fewT_calls {S:Nat→Prop} {w:World} {vc:Value} {cs:List CaseD} (n ins outs:Int) (h:Sl kCase S w vc cs):
  Calls Tryz.prog 55 #[.agg #[.int .i64 n,.int .i64 ins,.int .i64 outs,vc]] w (Post w fun _ r=>Tells (TaskFew cs) r):=by
 obtain ⟨ca,cc,rfl,ad,_⟩:=h.form2
 have hfw:=h.few
 have H1:=Lib.hid h
 obtain ⟨i0,hi,_,hz1,_⟩:=info_parts info_caseB
 have Q1:=Lib.hid (idx_wide Tryz.underlying22 hi hz1 ad)
 clear h hi hz1 ad
 have ex:=ext_alloc w (.cells #[.int .i64 n,.int .i64 ins,.int .i64 outs,.slice ca cs.length cc] 24)
 have R1:=row_new w [.int .i64 n,.int .i64 ins,.int .i64 outs,.slice ca cs.length cc] 24
 have t3:=R1.cell (j:=3) rfl
 by_cases hlen:30<cs.length
 ·go_enter Tryz.func55,Tryz.ntmps55
  go_wp2
  go_ret
  exact .mk ex .no
 go_enter Tryz.func55,Tryz.ntmps55
 go_wp2
 clear t3
 go_loopw [3,4] (fun i _ wr=>∃k:Nat,k≤cs.length∧i=.int .i64 k∧Below w.heap.size w wr∧Row wr w.heap.size 24 [.int .i64 n,.int .i64 ins,.int .i64 outs,.slice ca cs.length cc]∧Hid (∀j,j<k→CaseFew (nthC cs j))) (fun i _ _=>cs.length - (intOf i).toNat)
 case atStart=>exact ⟨0,Nat.zero_le _,rfl,ex,R1,Lib.hid fun j hj=>by omega⟩
 case round=>
  clear ex R1
  obtain ⟨k,hk,rfl,hb,R1,H⟩:=hrel
  have t3:=R1.cell (j:=3) rfl
  have l1:=R1.lt
  by_cases hlt:k<cs.length
  case neg=>
   have HF:Hid (TaskFew cs):=Lib.hid ⟨by omega,fun j hj=>H.out j (by omega)⟩
   go_wp2
   go_ret
   exact .mk hb (.yes HF.out)
  have q1:=Q1.out k hlt
  obtain ⟨x1,x2,x3,z1,z2,z3,i1,i2,i3⟩:=(H1.out.ext hb).case hlt
  have b1:=World.block_lt_of_cell? _ _ z1
  obtain ⟨xa1,xc1,rfl,_⟩:=i1.form
  obtain ⟨xa2,xc2,rfl,_⟩:=i2.form
  obtain ⟨xa3,xc3,rfl,_⟩:=i3.form
  have KV1:Hid (∀W,Below wr.heap.size wr W→Calls Tryz.prog 78 #[.slice xa2 (nthC cs k).out.length xc2,.int .i64 30] W (Post W fun _ r=>Tells (VecsFew 30 (nthC cs k).out) r)):=Lib.hid fun W hW=>fewV_calls (i2.ext hW) 30
  have KV2:Hid (∀W,Below wr.heap.size wr W→Calls Tryz.prog 78 #[.slice xa3 (nthC cs k).calm.length xc3,.int .i64 30] W (Post W fun _ r=>Tells (VecsFew 30 (nthC cs k).calm) r)):=Lib.hid fun W hW=>fewV_calls (i3.ext hW) 30
  obtain ⟨cd,hcd⟩:∃cd,cd=nthC cs k:=⟨_,rfl⟩
  rw[←hcd]at z1 z2 z3 KV1 KV2
  obtain ⟨n1,hn1⟩:∃n,n=cd.inn.length:=⟨_,rfl⟩
  obtain ⟨n2,hn2⟩:∃n,n=cd.out.length:=⟨_,rfl⟩
  obtain ⟨n3,hn3⟩:∃n,n=cd.calm.length:=⟨_,rfl⟩
  rw[←hn1]at z1
  rw[←hn2]at z2 KV1
  rw[←hn3]at z3 KV2
  have HCD:=Lib.hid (And.intro hcd hn1)
  have RX:=row_new wr [.slice xa1 n1 xc1,.slice xa2 n2 xc2,.slice xa3 n3 xc3] 123
  have hx:=ext_alloc wr (.cells #[.slice xa1 n1 xc1,.slice xa2 n2 xc2,.slice xa3 n3 xc3] 123)
  have R1b:=R1.alloc (.cells #[.slice xa1 n1 xc1,.slice xa2 n2 xc2,.slice xa3 n3 xc3] 123)
  clear hcd hn1 hn2 hn3 i1 i2 i3
  have y0:=RX.cell (j:=0) rfl
  have y1:=RX.cell (j:=1) rfl
  by_cases h10:10<n1
  ·go_wp2
   go_ret
   exact .mk (ext_trans hb hx) .no
  go_wp2_with fail
  refine (KV1.out _ hx).mono ?_
  rintro _ w2 ⟨_,rfl,hb2,b,rfl,hbt⟩
  replace RX:=RX.ext hb2
  replace R1b:=R1b.ext hb2
  replace hx:=ext_trans hx hb2
  have HBT:=Lib.hid hbt
  clear t3 l1 q1 z1 z2 z3 b1 y0 y1 hb2 KV1 hbt
  cases b with
  | false=>
   go_wp2
   go_ret
   exact .mk (ext_trans hb hx) .no
  | true=>
   have y2:=RX.cell (j:=2) rfl
   go_wp2_with fail
   refine (KV2.out _ hx).mono ?_
   rintro _ w3 ⟨_,rfl,hb3,b,rfl,hbt⟩
   replace R1b:=R1b.ext hb3
   replace hx:=ext_trans hx hb3
   have HBT2:=Lib.hid hbt
   have hbx:=ext_trans hb hx
   clear y2 hb3 KV2 hbt hx hb R1
   cases b with
   | false=>
    go_wp2
    go_ret
    exact .mk hbx .no
   | true=>
    have HX:Hid (∀j,j<k+1→CaseFew (nthC cs j)):=Lib.hid fun j hj=>by
     by_cases e:j=k
     ·rw[e,←HCD.out.1];exact ⟨by rw[←HCD.out.2];omega,HBT.out (by simp),HBT2.out (by simp)⟩
     ·exact H.out j (by omega)
    go_wp2
    go_roundw
    case rel=>exact ⟨k+1,by omega,by go_num,hbx,R1b,HX⟩
    case measure=>simp[intOf];omega
theorem num_few {p:ProbD} (h:1≤p.cs.length) (hx:p.cs.length * cutW p.st p.rounds.toNat 4096 0≤60):p.num≤60:=by
 unfold ProbD.num
 by_cases hc:4096<cntW p.st p.rounds.toNat 0
 ·have h1:=cutW_gt.2 hc
  have h2:=Nat.mul_le_mul_right (cutW p.st p.rounds.toNat 4096 0) h
  omega
 ·rw[←cutW_eq hc];exact hx
theorem fewP_calls {S S':Nat→Prop} {w:World} {vc vs:Value} {p:ProbD} (hc:Sl kCase S w vc p.cs) (hs:Sl (kSl (kFlat 8)) S' w vs p.st):
  Calls Tryz.prog 30 #[.agg #[.int .i64 p.n,.int .i64 p.ins,.int .i64 p.outs,vc,.int .i64 p.an,vs,.int .i64 p.rounds]] w (Post w fun _ r=>Tells (FewP p) r):=by
 obtain ⟨ca,cc,rfl,_⟩:=hc.form
 obtain ⟨sa,sc,rfl,_⟩:=hs.form
 have KT:Hid (∀W,Below w.heap.size w W→Calls Tryz.prog 55 #[.agg #[.int .i64 p.n,.int .i64 p.ins,.int .i64 p.outs,.slice ca p.cs.length cc]] W (Post W fun _ r=>Tells (TaskFew p.cs) r)):=Lib.hid fun W hW=>fewT_calls _ _ _ (hc.ext hW)
 have KA:Hid (∀W,Below w.heap.size w W→Calls Tryz.prog 56 #[.agg #[.int .i64 p.an,.slice sa p.st.length sc]] W (Post W fun _ r=>r=.bool (fewA p.st))):=Lib.hid fun W hW=>rfewA_calls _ (hs.ext hW)
 have KC:Hid (∀W,Below w.heap.size w W→Calls Tryz.prog 57 #[.agg #[.int .i64 p.n,.int .i64 p.ins,.int .i64 p.outs,.slice ca p.cs.length cc,.int .i64 p.an,.slice sa p.st.length sc,.int .i64 p.rounds]] W (Post W fun _ r=>r=.int .i64 (checkPr p))):=Lib.hid fun W hW=>rcheckPr_calls (hc.ext hW) (hs.ext hW)
 have KN:Hid (checkPr p=0→∀W,Below w.heap.size w W→Calls Tryz.prog 58 #[.agg #[.int .i64 p.n,.int .i64 p.ins,.int .i64 p.outs,.slice ca p.cs.length cc,.int .i64 p.an,.slice sa p.st.length sc,.int .i64 p.rounds],.int .i64 4096] W (Post W fun _ r=>r=.int .i64 (p.cs.length * cutW p.st p.rounds.toNat 4096 0:Nat))):=Lib.hid fun hz W hW=>rnumber_calls (hc.ext hW) (hs.ext hW) hz 4096 (by omega)
 have ex:=ext_alloc w (.cells #[.int .i64 p.n,.int .i64 p.ins,.int .i64 p.outs,.slice ca p.cs.length cc,.int .i64 p.an,.slice sa p.st.length sc,.int .i64 p.rounds] 29)
 have R1:=row_new w [.int .i64 p.n,.int .i64 p.ins,.int .i64 p.outs,.slice ca p.cs.length cc,.int .i64 p.an,.slice sa p.st.length sc,.int .i64 p.rounds] 29
 obtain ⟨e1,he1⟩:∃e,e=checkPr p:=⟨_,rfl⟩
 rw[←he1]at KC
 have HE1:=Lib.hid he1
 obtain ⟨fa,hfa⟩:∃fa,fa=fewA p.st:=⟨_,rfl⟩
 rw[←hfa]at KA
 have HFA:=Lib.hid hfa
 clear hc hs he1 hfa
 go_enter Tryz.func30,Tryz.ntmps30
 go_wp2_with fail
 refine (KT.out _ ex).mono ?_
 rintro _ w1 ⟨_,rfl,hb1,b,rfl,hbt⟩
 replace R1:=R1.ext hb1
 replace ex:=ext_trans ex hb1
 have HBT:=Lib.hid hbt
 clear hb1 KT hbt
 cases b with
 | false=>
  go_wp2
  go_ret
  exact .mk ex .no
 | true=>
  have HT:Hid (TaskFew p.cs):=Lib.hid (HBT.out (by simp))
  have c4:=R1.cell (j:=4) rfl
  have c5:=R1.cell (j:=5) rfl
  clear HBT
  go_wp2_with fail
  refine (KA.out _ ex).mono ?_
  rintro _ w2 ⟨_,rfl,hb2,rfl⟩
  replace R1:=R1.ext hb2
  replace ex:=ext_trans ex hb2
  clear c4 c5 hb2 KA
  cases fa with
  | false=>
   go_wp2
   go_ret
   exact .mk ex .no
  | true=>
   have c0:=R1.cell (j:=0) rfl
   have c1:=R1.cell (j:=1) rfl
   have c2:=R1.cell (j:=2) rfl
   have c3:=R1.cell (j:=3) rfl
   have c4:=R1.cell (j:=4) rfl
   have c5:=R1.cell (j:=5) rfl
   have c6:=R1.cell (j:=6) rfl
   have lR:=R1.lt
   obtain ⟨n,hn⟩:∃n,n=p.n:=⟨_,rfl⟩
   have HNN:=Lib.hid hn
   by_cases h3:3<p.n∧p.n≤5
   ·obtain ⟨h31,h32⟩:=h3
    clear hn
    go_wp2
    go_ret
    exact .mk ex .no
   have HN3:=Lib.hid h3
   have fin:∀(Q:World→Prop),(3<p.n→¬p.n≤5→Q w)→(¬3<p.n→Q w)→Q w:=fun Q h1 h2=>by
    by_cases h:3<p.n
    ·exact h1 h fun h'=>h3 ⟨h,h'⟩
    ·exact h2 h
   clear h3 fin hn
   by_cases h3:3<p.n
   ·have h5:¬p.n≤5:=fun h=>HN3.out ⟨h3,h⟩
    go_wp2_with fail
    refine (KC.out _ ex).mono ?_
    rintro _ w3 ⟨_,rfl,hb3,rfl⟩
    replace ex:=ext_trans ex hb3
    clear c0 c1 c2 c3 c4 c5 c6 lR KC hb3
    by_cases h1:e1=0
    ·exfalso
     obtain ⟨N,hok⟩:=probOK (show checkPr p=0 by rw[←HE1.out];exact h1)
     have:=hok.n;have:=hok.n1;omega
    ·have d1:(e1 !=0)=true:=by simp[h1]
     have HF:Hid (FewP p):=Lib.hid ⟨HT.out,HFA.out.symm,HN3.out,fun h=>absurd (by rw[HE1.out];exact h) h1⟩
     clear h1
     go_wp2
     go_ret
     exact .mk ex (.yes HF.out)
   ·go_wp2_with fail
    refine (KC.out _ ex).mono ?_
    rintro _ w3 ⟨_,rfl,hb3,rfl⟩
    replace R1:=R1.ext hb3
    replace ex:=ext_trans ex hb3
    clear c0 c1 c2 c3 c4 c5 c6 lR KC hb3
    by_cases h1:e1=0
    case neg=>
     have d1:(e1 !=0)=true:=by simp[h1]
     have HF:Hid (FewP p):=Lib.hid ⟨HT.out,HFA.out.symm,HN3.out,fun h=>absurd (by rw[HE1.out];exact h) h1⟩
     clear h1
     go_wp2
     go_ret
     exact .mk ex (.yes HF.out)
    have HZ:Hid (checkPr p=0):=Lib.hid (by rw[←HE1.out];exact h1)
    have d1:(e1 !=0)=false:=by simp[h1]
    clear h1
    have c0:=R1.cell (j:=0) rfl
    have c1:=R1.cell (j:=1) rfl
    have c2:=R1.cell (j:=2) rfl
    have c3:=R1.cell (j:=3) rfl
    have c4:=R1.cell (j:=4) rfl
    have c5:=R1.cell (j:=5) rfl
    have c6:=R1.cell (j:=6) rfl
    have lR:=R1.lt
    go_wp2_with fail
    refine (KN.out HZ.out _ ex).mono ?_
    rintro _ w4 ⟨_,rfl,hb4,rfl⟩
    replace ex:=ext_trans ex hb4
    clear c0 c1 c2 c3 c4 c5 c6 lR KN hb4 d1
    have hcl:1≤p.cs.length:=by obtain ⟨N,hok⟩:=probOK HZ.out;exact hok.c1.1
    have htest:=num_test (p:=p) hcl
    have hfew:=num_few (p:=p) hcl
    obtain ⟨q,hq⟩:∃q,q=p.cs.length * cutW p.st p.rounds.toNat 4096 0:=⟨_,rfl⟩
    rw[←hq]at htest hfew ⊢
    have HTE:=Lib.hid (And.intro htest hfew)
    clear hq htest hfew
    by_cases h60:q≤60
    ·have HF:Hid (FewP p):=Lib.hid ⟨HT.out,HFA.out.symm,HN3.out,fun _=>.inl (HTE.out.2 h60)⟩
     have g1:decide ((q:Int)≤60)=true:=decide_eq_true (by omega)
     go_wp2
     go_ret
     exact .mk ex (.yes HF.out)
    ·have g1:decide ((q:Int)≤60)=false:=decide_eq_false (by omega)
     by_cases h40:4096<q
     ·have HF:Hid (FewP p):=Lib.hid ⟨HT.out,HFA.out.symm,HN3.out,fun _=>.inr (HTE.out.1.1 h40)⟩
      have g2:decide ((4096:Int)<(q:Int))=true:=decide_eq_true (by omega)
      go_wp2
      go_ret
      exact .mk ex (.yes HF.out)
     ·have g2:decide ((4096:Int)<(q:Int))=false:=decide_eq_false (by omega)
      go_wp2
      go_ret
      exact .mk ex .no
end Go.Proofs.YtaijafjfafbcfaaGreat
namespace Go.Proofs.YtaijafjfafbcfaaGreat
open Go.RowKit
attribute [local go_sem ↓] Go.wp_at_zero Go.wp_at_succ
theorem fewS_calls {S:Nat→Prop} {w:World} {v:Value} {s:SysF} (h:SysV S w v s):
  Calls Tryz.prog 10 #[v] w (Post w fun _ r=>Tells (FewS s) r):=by
 obtain ⟨vc,vs,vt,vx,rfl,hc,hs,ht,hx⟩:=h
 obtain ⟨ca,cc,rfl,_⟩:=hc.form
 obtain ⟨sa,sc,rfl,_⟩:=hs.form
 obtain ⟨ta,tc,rfl,_⟩:=ht.form
 obtain ⟨xa,xc,rfl,ad,_⟩:=hx.form2
 have KF:Hid (∀W,Below w.heap.size w W→Calls Tryz.prog 30 #[.agg #[.int .i64 s.p.n,.int .i64 s.p.ins,.int .i64 s.p.outs,.slice ca s.p.cs.length cc,.int .i64 s.p.an,.slice sa s.p.st.length sc,.int .i64 s.p.rounds]] W (Post W fun _ r=>Tells (FewP s.p) r)):=Lib.hid fun W hW=>fewP_calls (hc.ext hW) (hs.ext hW)
 have Q:=Lib.hid (idx_exec ad)
 have HX:=Lib.hid hx
 have ex:=ext_alloc w (.cells #[.int .i64 s.p.n,.int .i64 s.p.ins,.int .i64 s.p.outs,.slice ca s.p.cs.length cc,.int .i64 s.p.an,.slice sa s.p.st.length sc,.int .i64 s.p.rounds,.int .i64 s.tn,.slice ta s.tab.length tc,.slice xa s.ex.length xc] 35)
 have R1:=row_new w [.int .i64 s.p.n,.int .i64 s.p.ins,.int .i64 s.p.outs,.slice ca s.p.cs.length cc,.int .i64 s.p.an,.slice sa s.p.st.length sc,.int .i64 s.p.rounds,.int .i64 s.tn,.slice ta s.tab.length tc,.slice xa s.ex.length xc] 35
 clear hc hs ht hx ad
 have c0:=R1.cell (j:=0) rfl
 have c1:=R1.cell (j:=1) rfl
 have c2:=R1.cell (j:=2) rfl
 have c3:=R1.cell (j:=3) rfl
 have c4:=R1.cell (j:=4) rfl
 have c5:=R1.cell (j:=5) rfl
 have c6:=R1.cell (j:=6) rfl
 have c7:=R1.cell (j:=7) rfl
 have c8:=R1.cell (j:=8) rfl
 have c9:=R1.cell (j:=9) rfl
 have l1:=R1.lt
 go_enter Tryz.func10,Tryz.ntmps10
 go_wp2_with fail
 refine (KF.out _ ex).mono ?_
 rintro _ w1 ⟨_,rfl,hb1,b,rfl,hbt⟩
 clear c0 c1 c2 c3 c4 c5 c6 c7 c8 c9 l1 KF
 replace R1:=R1.ext hb1
 replace ex:=ext_trans ex hb1
 have HBT:=Lib.hid hbt
 clear hb1 hbt
 have c8:=R1.cell (j:=8) rfl
 have c9:=R1.cell (j:=9) rfl
 have l1:=R1.lt
 cases b with
 | false=>
  go_wp2
  go_ret
  exact .mk ex .no
 | true=>
  have HP:Hid (FewP s.p):=Lib.hid (HBT.out (by simp))
  clear HBT
  obtain ⟨nt,hnt⟩:∃n,n=s.tab.length:=⟨_,rfl⟩
  obtain ⟨nx,hnx⟩:∃n,n=s.ex.length:=⟨_,rfl⟩
  rw[←hnt,←hnx]at R1
  rw[←hnt]at c8
  rw[←hnx]at c9 Q
  have HN:=Lib.hid (And.intro hnt hnx)
  clear hnt hnx
  by_cases h6:600<nt
  ·go_wp2
   go_ret
   exact .mk ex .no
  have g6:decide ((600:Int)<(nt:Int))=false:=decide_eq_false (by omega)
  by_cases h7:70<nx
  ·go_wp2
   go_ret
   exact .mk ex .no
  have g7:decide ((70:Int)<(nx:Int))=false:=decide_eq_false (by omega)
  go_wp2
  clear c8 c9 l1
  go_loopw [3,4,5] (fun i _ _ wr=>∃k:Nat,k≤nx∧i=.int .i64 k∧Below w.heap.size w wr∧Row wr w.heap.size 35 [.int .i64 s.p.n,.int .i64 s.p.ins,.int .i64 s.p.outs,.slice ca s.p.cs.length cc,.int .i64 s.p.an,.slice sa s.p.st.length sc,.int .i64 s.p.rounds,.int .i64 s.tn,.slice ta nt tc,.slice xa nx xc]∧Hid (∀j,j<k→(nthX s.ex j).word.length≤10∧VecsFew 10 (nthX s.ex j).vs)) (fun i _ _ _=>nx - (intOf i).toNat)
  case atStart=>exact ⟨0,Nat.zero_le _,rfl,ex,R1,Lib.hid fun j hj=>by omega⟩
  case round=>
   clear ex R1
   obtain ⟨k,hk,rfl,hb,R1,H⟩:=hrel
   have c9:=R1.cell (j:=9) rfl
   have l1:=R1.lt
   by_cases hlt:k<nx
   case neg=>
    have HF:Hid (FewS s):=Lib.hid ⟨HP.out,by have:=HN.out.1;omega,by have:=HN.out.2;omega,fun j hj=>H.out j (by have:=HN.out.2;omega)⟩
    go_wp2
    go_ret
    exact .mk hb (.yes HF.out)
   have q1:=Q.out k hlt
   obtain ⟨a1,c1,a2,c2,z0,z1,z2,_,i2⟩:=(HX.out.ext hb).exec (k:=k) (by have:=HN.out.2;omega)
   have b1:=World.block_lt_of_cell? _ _ z0
   obtain ⟨_,_,he,ad2,_⟩:=i2.form
   cases he
   obtain ⟨i0,hi,_,hz1,_⟩:=info_parts info_ints
   have Q2:=Lib.hid (idx_one Tryz.underlying79 hi hz1 ad2)
   have HI2:=Lib.hid i2
   obtain ⟨xd,hxd⟩:∃x,x=nthX s.ex k:=⟨_,rfl⟩
   rw[←hxd]at z0 z1 z2 Q2 HI2
   obtain ⟨xcase,hxc⟩:∃n,n=xd.case:=⟨_,rfl⟩
   obtain ⟨n1,hn1⟩:∃n,n=xd.word.length:=⟨_,rfl⟩
   obtain ⟨n2,hn2⟩:∃n,n=xd.vs.length:=⟨_,rfl⟩
   rw[←hxc]at z0
   rw[←hn1]at z1
   rw[←hn2]at z2 Q2
   have HD:=Lib.hid (And.intro hxd (And.intro hn1 hn2))
   clear hxd hxc hn1 hn2 i2 hi hz1 ad2
   have RX:=row_new wr [.int .i64 xcase,.slice a1 n1 c1,.slice a2 n2 c2] 81
   have hx:=ext_alloc wr (.cells #[.int .i64 xcase,.slice a1 n1 c1,.slice a2 n2 c2] 81)
   have R1b:=R1.alloc (.cells #[.int .i64 xcase,.slice a1 n1 c1,.slice a2 n2 c2] 81)
   have y1:=RX.cell (j:=1) rfl
   have y2:=RX.cell (j:=2) rfl
   by_cases h8:10<n1
   ·go_wp2
    go_ret
    exact .mk (ext_trans hb hx) .no
   have g8:decide ((10:Int)<(n1:Int))=false:=decide_eq_false (by omega)
   by_cases h9:10<n2
   ·go_wp2
    go_ret
    exact .mk (ext_trans hb hx) .no
   have g9:decide ((10:Int)<(n2:Int))=false:=decide_eq_false (by omega)
   rename World=>wq
   obtain ⟨wo,hwo⟩:∃wo,wo=wq.alloc (.cells #[.int .i64 xcase,.slice a1 n1 c1,.slice a2 n2 c2] 81):=⟨_,rfl⟩
   go_upto_region 9 with fail
   rw[←hwo]at hx R1b RX y1 y2 ⊢
   clear hwo c9 l1 q1 z0 z1 z2 b1 y1 y2 R1
   go_wp2
   go_loopw [5] (fun i wr=>∃j:Nat,j≤n2∧i=.int .i64 j∧Below wq.heap.size wq wr∧Row wr w.heap.size 35 [.int .i64 s.p.n,.int .i64 s.p.ins,.int .i64 s.p.outs,.slice ca s.p.cs.length cc,.int .i64 s.p.an,.slice sa s.p.st.length sc,.int .i64 s.p.rounds,.int .i64 s.tn,.slice ta nt tc,.slice xa nx xc]∧Row wr wq.heap.size 81 [.int .i64 xcase,.slice a1 n1 c1,.slice a2 n2 c2]∧Hid (∀m,m<j→(nthL xd.vs m).length≤10)) (fun i _=>n2 - (intOf i).toNat)
   case atStart=>exact ⟨0,Nat.zero_le _,rfl,hx,R1b,RX,Lib.hid fun m hm=>by omega⟩
   case round=>
    clear hx R1b RX
    obtain ⟨j,hj,rfl,hbq,R1,RX,HJ⟩:=hrel
    have y2:=RX.cell (j:=2) rfl
    have l2:=RX.lt
    by_cases hlt2:j<n2
    case neg=>
     have hb2:=ext_trans hb hbq
     have HX2:Hid (∀j,j<k+1→(nthX s.ex j).word.length≤10∧VecsFew 10 (nthX s.ex j).vs):=Lib.hid fun m hm=>by
      by_cases e:m=k
      ·rw[e,←HD.out.1]
       refine ⟨by rw[←HD.out.2.1];omega,by rw[←HD.out.2.2];omega,fun r hr=>?_⟩
       obtain ⟨i,hi,rfl⟩:=mem_nthL hr
       exact HJ.out i (by have:=HD.out.2.2;omega)
      ·exact H.out m (by omega)
     go_wp2
     go_roundw
     case rel=>exact ⟨k+1,by omega,by go_num,hb2,R1,HX2⟩
     case measure=>simp[intOf];omega
    have q2:=Q2.out j hlt2
    have hj2:j<xd.vs.length:=by have:=HD.out.2.2;omega
    obtain ⟨u,cu,iu⟩:=HI2.out.at hbq hj2
    clear hj2
    have bu:=World.block_lt_of_cell? _ _ cu
    obtain ⟨ua,uc,rfl,_⟩:=iu.form
    obtain ⟨n,hn⟩:∃n,n=(nthL xd.vs j).length:=⟨_,rfl⟩
    rw[←hn]at cu
    have HN2:=Lib.hid hn
    clear hn iu
    by_cases h10:10<n
    ·go_wp2
     go_ret
     exact .mk (ext_trans hb hbq) .no
    ·have HY:Hid (∀m,m<j+1→(nthL xd.vs m).length≤10):=Lib.hid fun m hm=>by
      by_cases e:m=j
      ·rw[e,←HN2.out];omega
      ·exact HJ.out m (by omega)
     go_wp2
     go_roundw
     case rel=>exact ⟨j+1,by omega,by go_num,hbq,R1,RX,HY⟩
     case measure=>simp[intOf];omega
end Go.Proofs.YtaijafjfafbcfaaGreat
