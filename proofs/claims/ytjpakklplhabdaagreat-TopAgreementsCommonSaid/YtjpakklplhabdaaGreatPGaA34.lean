/- Part of the proof that the laws answer true for every input. -/
import Derived.Test.YtjpakklplhabdaaGreatPGaA33
set_option linter.unusedSimpArgs false
set_option linter.unnecessarySimpa false
set_option linter.unusedVariables false
set_option maxRecDepth 100000
set_option maxHeartbeats 40000000
namespace Go.Proofs.YtjpakklplhabdaaGreat
open Go.RowKit
attribute [local go_sem ↓] Go.wp_at_zero Go.wp_at_succ
theorem YV {S:Nat→Prop} {w:World} {v:Value} {s:SysF} (h:SysV S w v s) (hsm:SmallP s.p):
  Calls Tryz.prog 39 #[v] w (Post w fun _ r=>r=.int .i64 (verE s)):=by
 have H0:=zhd h
 obtain ⟨vc,vs,vt,vx,hv,hc,hs,ht,hx⟩:=h
 obtain ⟨ca,cc,rfl,_⟩:=hc.form
 obtain ⟨sa,sc,rfl,_⟩:=hs.form
 obtain ⟨ta,tc,rfl,_⟩:=ht.form
 obtain ⟨xa,xc,rfl,_⟩:=hx.form
 subst hv
 have KB:Hid (∀W,Below w.heap.size w W→Calls Tryz.prog 38 #[.agg #[.int .i64 s.p.n,.int .i64 s.p.ins,.int .i64 s.p.outs,.slice ca s.p.cs.length cc,.int .i64 s.p.an,.slice sa s.p.st.length sc,.int .i64 s.p.rounds]] W (Post W (BuildR s.p))):=zhd fun W hW=>xS (hc.ext hW) (hs.ext hW) hsm
 obtain ⟨e,he⟩:∃e,e=verE s:=⟨_,rfl⟩
 rw[←he]
 have HV1:Hid (buildE s.p=0→e=if s.tn=s.p.n∧s.tab=s.p.full.tab∧s.ex=s.p.full.ex then 0 else 3):=zhd fun h=>by rw[he];exact zcx h
 have HV2:Hid (buildE s.p≠0→e=buildE s.p):=zhd fun h=>by rw[he];exact zaN h
 clear hc hs ht hx he hsm
 have ex:=zb w (.cells #[.int .i64 s.p.n,.int .i64 s.p.ins,.int .i64 s.p.outs,.slice ca s.p.cs.length cc,.int .i64 s.p.an,.slice sa s.p.st.length sc,.int .i64 s.p.rounds,.int .i64 s.tn,.slice ta s.tab.length tc,.slice xa s.ex.length xc] 39)
 have R1:=ze w [.int .i64 s.p.n,.int .i64 s.p.ins,.int .i64 s.p.outs,.slice ca s.p.cs.length cc,.int .i64 s.p.an,.slice sa s.p.st.length sc,.int .i64 s.p.rounds,.int .i64 s.tn,.slice ta s.tab.length tc,.slice xa s.ex.length xc] 39
 obtain ⟨c0,c1,c2,c3,c4,c5,c6,c7,c8,c9⟩:=R1.ten
 have hl1:=R1.lt
 go_enter Tryz.func39,Tryz.ntmps39
 go_wp2_with fail
 refine (KB.out _ ex).mono ?_
 rintro _ w1 ⟨r,rfl,hb1,hr⟩
 clear c0 c1 c2 c3 c4 c5 c6 c7 c8 c9 hl1 KB
 have ex1:=za ex hb1
 replace R1:=R1.ext hb1
 clear hb1 ex
 rcases hr with ⟨h0,v,rfl,hv⟩ | ⟨h0,rfl⟩
 case inr=>
  have RR:=zhd (HV2.out h0)
  obtain ⟨y,hy⟩:∃y,y=buildE s.p:=⟨_,rfl⟩
  rw[←hy]at RR h0 ⊢
  have d1:(y !=0)=true:=by simp[h0]
  clear hy h0 HV1 HV2
  unfold zeroSys
  go_wp2
  go_ret
  exact .mk (zg ex1 _) (zi RR.out.symm)
 have RR:=zhd (HV1.out h0)
 clear HV1 HV2 h0
 have HV0:=zhd hv
 obtain ⟨vc2,vs2,vt2,vx2,hvv,hc2,hs2,ht2,hx2⟩:=hv
 obtain ⟨ca2,cc2,rfl,_⟩:=hc2.form
 obtain ⟨sa2,sc2,rfl,_⟩:=hs2.form
 obtain ⟨ta2,tc2,rfl,_⟩:=ht2.form
 obtain ⟨xa2,xc2,rfl,_⟩:=hx2.form
 subst hvv
 have e1:s.p.full.p.n=s.p.n∧s.p.full.p.ins=s.p.ins∧s.p.full.p.outs=s.p.outs∧s.p.full.p.an=s.p.an∧s.p.full.p.rounds=s.p.rounds∧s.p.full.tn=s.p.n:=⟨rfl,rfl,rfl,rfl,rfl,rfl⟩
 rw[e1.1,e1.2.1,e1.2.2.1,e1.2.2.2.1,e1.2.2.2.2.1,e1.2.2.2.2.2]at HV0 ⊢
 clear e1 hc2 hs2 ht2 hx2
 have KS:Hid (∀W,Below w1.heap.size w1 W→Calls Tryz.prog 79 #[.agg #[.int .i64 s.p.n,.int .i64 s.p.ins,.int .i64 s.p.outs,.slice ca s.p.cs.length cc,.int .i64 s.p.an,.slice sa s.p.st.length sc,.int .i64 s.p.rounds,.int .i64 s.tn,.slice ta s.tab.length tc,.slice xa s.ex.length xc],.agg #[.int .i64 s.p.n,.int .i64 s.p.ins,.int .i64 s.p.outs,.slice ca2 s.p.full.p.cs.length cc2,.int .i64 s.p.an,.slice sa2 s.p.full.p.st.length sc2,.int .i64 s.p.rounds,.int .i64 s.p.n,.slice ta2 s.p.full.tab.length tc2,.slice xa2 s.p.full.ex.length xc2]] W (Post W fun _ r=>r=.bool (decide ((s.tn=s.p.n∧s.tab=s.p.full.tab)∧s.ex=s.p.full.ex)))):=zhd fun W hW=>Qj ((H0.out.ext ex1).ext hW) (HV0.out.ext hW)
 obtain ⟨b1,hb1⟩:∃b,b=decide ((s.tn=s.p.n∧s.tab=s.p.full.tab)∧s.ex=s.p.full.ex):=⟨_,rfl⟩
 have HRR:Hid (e=if b1=true then 0 else 3):=zhd (by
  rw[RR.out,hb1]
  by_cases h:(s.tn=s.p.n∧s.tab=s.p.full.tab)∧s.ex=s.p.full.ex
  ·rw[decide_eq_true h,if_pos rfl,if_pos ⟨h.1.1,h.1.2,h.2⟩]
  ·rw[decide_eq_false h,if_neg (fun h'=>h ⟨⟨h'.1,h'.2.1⟩,h'.2.2⟩)];rfl)
 rw[←hb1]at KS
 clear hb1 RR H0 HV0
 have R2:=ze w1 [.int .i64 s.p.n,.int .i64 s.p.ins,.int .i64 s.p.outs,.slice ca2 s.p.full.p.cs.length cc2,.int .i64 s.p.an,.slice sa2 s.p.full.p.st.length sc2,.int .i64 s.p.rounds,.int .i64 s.p.n,.slice ta2 s.p.full.tab.length tc2,.slice xa2 s.p.full.ex.length xc2] 39
 have hx3:=zb w1 (.cells #[.int .i64 s.p.n,.int .i64 s.p.ins,.int .i64 s.p.outs,.slice ca2 s.p.full.p.cs.length cc2,.int .i64 s.p.an,.slice sa2 s.p.full.p.st.length sc2,.int .i64 s.p.rounds,.int .i64 s.p.n,.slice ta2 s.p.full.tab.length tc2,.slice xa2 s.p.full.ex.length xc2] 39)
 replace R1:=R1.alloc (.cells #[.int .i64 s.p.n,.int .i64 s.p.ins,.int .i64 s.p.outs,.slice ca2 s.p.full.p.cs.length cc2,.int .i64 s.p.an,.slice sa2 s.p.full.p.st.length sc2,.int .i64 s.p.rounds,.int .i64 s.p.n,.slice ta2 s.p.full.tab.length tc2,.slice xa2 s.p.full.ex.length xc2] 39)
 have ex2:=zg ex1 (.cells #[.int .i64 s.p.n,.int .i64 s.p.ins,.int .i64 s.p.outs,.slice ca2 s.p.full.p.cs.length cc2,.int .i64 s.p.an,.slice sa2 s.p.full.p.st.length sc2,.int .i64 s.p.rounds,.int .i64 s.p.n,.slice ta2 s.p.full.tab.length tc2,.slice xa2 s.p.full.ex.length xc2] 39)
 obtain ⟨c0,c1,c2,c3,c4,c5,c6,c7,c8,c9⟩:=R1.ten
 obtain ⟨d0,d1,d2,d3,d4,d5,d6,d7,d8,d9⟩:=R2.ten
 go_wp2_with fail
 refine (KS.out _ hx3).mono ?_
 rintro _ w3 ⟨_,rfl,hb3,rfl⟩
 replace ex2:=za ex2 hb3
 clear hb3 R1 R2 c0 c1 c2 c3 c4 c5 c6 c7 c8 c9 d0 d1 d2 d3 d4 d5 d6 d7 d8 d9
 cases b1 with
 | false=>
  have RR:Hid (e=3):=zhd (by rw[HRR.out];rfl)
  go_wp2
  go_ret
  exact .mk ex2 (zi RR.out.symm)
 | true=>
  have RR:Hid (e=0):=zhd (by rw[HRR.out];rfl)
  go_wp2
  go_ret
  exact .mk ex2 (zi RR.out.symm)
def Tells (Q:Prop) (r:Value):Prop:=∃b:Bool,r=.bool b∧(b=true→Q)
theorem Tells.no {Q:Prop}:Tells Q (.bool false):=⟨false,rfl,fun h=>by cases h⟩
theorem Tells.yes {Q:Prop} (h:Q):Tells Q (.bool true):=⟨true,rfl,fun _=>h⟩
def VecsFew (most:Nat) (l:List (List Int)):Prop:=l.length≤most∧∀r∈l,r.length≤10
def CaseFew (c:CaseD):Prop:=c.inn.length≤10∧VecsFew 30 c.out∧VecsFew 30 c.calm
def TaskFew (l:List CaseD):Prop:=l.length≤30∧∀k,k<l.length→CaseFew (nthC l k)
structure FewP (p:ProbD):Prop where
 t:TaskFew p.cs
 a:fewA p.st=true
 n:¬(3<p.n∧p.n≤5)
 m:checkPr p=0→p.num≤60∨4096<p.num
theorem zdV {l:List (List Int)} {r:List Int} (h:r∈l):∃k,k<l.length∧nthL l k=r:=by
 obtain ⟨k,hk,rfl⟩:=List.getElem_of_mem h
 exact ⟨k,hk,zM hk⟩
theorem zb5 {st:Moves} {k:Nat} (h:k<st.length):(nthM st k).length≤movesN st:=by
 have h1:(pairsTo st st.length).length=movesN st:=by rw[yY,yZ]
 have h2:=qN (st:=st) (k:=k) (j:=(nthM st k).length) h
 have h3:=h2.length_le
 rw[yZ,List.length_append,List.length_map,List.length_take]at h3
 omega
theorem FewP.few {p:ProbD} (h:FewP p):PFew p:=by
 have ha:p.st.length≤8∧movesN p.st≤40:=by
  have:=h.a
  unfold fewA at this
  simpa using this
 refine ⟨⟨by have:=h.t.1;omega,fun k hk=>?_,by omega,fun k hk=>by have:=zb5 hk;omega⟩,by omega,fun hz hn=>?_⟩
 ·obtain ⟨h1,h2,h3⟩:=h.t.2 k hk
  exact ⟨by omega,by have:=h2.1;omega,by have:=h3.1;omega,fun r hr=>by have:=h2.2 r hr;omega,fun r hr=>by have:=h3.2 r hr;omega⟩
 ·refine ⟨by rcases h.m hz with h1 | h1<;>omega,?_⟩
  obtain ⟨N,hok⟩:=probOK hz
  have:=hok.n
  have:=hok.n1
  have:=h.n
  omega
theorem Yr {S:Nat→Prop} {w:World} {v:Value} {l:List (List Int)} (h:Lists S w v l) (most:Nat):
  Calls Tryz.prog 101 #[v,.int .i64 most] w (Post w fun _ r=>Tells (VecsFew most l) r):=by
 obtain ⟨a,c,rfl,ad,hle,hm⟩:=h.form
 unfold maxLen at hm
 have HL:=zhd h
 obtain ⟨i0,hi,_,hz1,_⟩:=info_parts zF
 have Q:=zhd (zz Tryz.underlying47 hi hz1 ad)
 clear h hi hz1 ad
 by_cases hlen:most<l.length
 ·have d1:decide ((most:Int)<(l.length:Int))=true:=decide_eq_true (by omega)
  go_enter Tryz.func101,Tryz.ntmps101
  go_wp2
  go_ret
  exact .same .no
 have d1:decide ((most:Int)<(l.length:Int))=false:=decide_eq_false (by omega)
 go_enter Tryz.func101,Tryz.ntmps101
 go_wp2
 go_loopw [5] (fun i wr=>∃k:Nat,k≤l.length∧i=.int .i64 k∧Below w.heap.size w wr∧Hid (∀j,j<k→(nthL l j).length≤10)) (fun i _=>l.length - (intOf i).toNat)
 case atStart=>exact ⟨0,Nat.zero_le _,rfl,.refl _ _,zhd fun j hj=>by omega⟩
 case round=>
  obtain ⟨k,hk,rfl,hb,H⟩:=hrel
  by_cases hlt:k<l.length
  case neg=>
   have HF:Hid (VecsFew most l):=zhd ⟨by omega,fun r hr=>by obtain ⟨j,hj,rfl⟩:=zdV hr;exact H.out j (by omega)⟩
   go_wp2
   go_ret
   exact .mk hb (.yes HF.out)
  have q:=Q.out k hlt
  obtain ⟨u,cu,iu⟩:=HL.out.at hb hlt
  have bu:=World.block_lt_of_cell? _ _ cu
  obtain ⟨ua,uc,rfl,_⟩:=iu.form
  obtain ⟨n,hn⟩:∃n,n=(nthL l k).length:=⟨_,rfl⟩
  rw[←hn]at cu
  have HN:=zhd hn
  clear hn iu
  by_cases h10:10<n
  ·go_wp2
   go_ret
   exact .mk hb .no
  ·have HX:Hid (∀j,j<k+1→(nthL l j).length≤10):=zhd fun j hj=>by
    by_cases e:j=k
    ·rw[e,←HN.out];omega
    ·exact H.out j (by omega)
   go_wp2
   go_roundw
   case rel=>exact ⟨k+1,by omega,by go_num,hb,HX⟩
   case measure=>simp[intOf];omega
theorem zbO {S:Nat→Prop} {w:World} {vc:Value} {cs:List CaseD} (n ins outs:Int) (h:Sl kCase S w vc cs):
  Calls Tryz.prog 74 #[.agg #[.int .i64 n,.int .i64 ins,.int .i64 outs,vc]] w (Post w fun _ r=>Tells (TaskFew cs) r):=by
 obtain ⟨ca,cc,rfl,ad,_⟩:=h.form2
 have hfw:=h.few
 have H1:=zhd h
 obtain ⟨i0,hi,_,hz1,_⟩:=info_parts yw
 have Q1:=zhd (zJ Tryz.underlying22 hi hz1 ad)
 clear h hi hz1 ad
 have ex:=zb w (.cells #[.int .i64 n,.int .i64 ins,.int .i64 outs,.slice ca cs.length cc] 24)
 have R1:=ze w [.int .i64 n,.int .i64 ins,.int .i64 outs,.slice ca cs.length cc] 24
 have t3:=R1.zc 3 rfl
 by_cases hlen:30<cs.length
 ·go_enter Tryz.func74,Tryz.ntmps74
  go_wp2
  go_ret
  exact .mk ex .no
 go_enter Tryz.func74,Tryz.ntmps74
 go_wp2
 clear t3
 go_loopw [3,4] (fun i _ wr=>∃k:Nat,k≤cs.length∧i=.int .i64 k∧Below w.heap.size w wr∧Row wr w.heap.size 24 [.int .i64 n,.int .i64 ins,.int .i64 outs,.slice ca cs.length cc]∧Hid (∀j,j<k→CaseFew (nthC cs j))) (fun i _ _=>cs.length - (intOf i).toNat)
 case atStart=>exact ⟨0,Nat.zero_le _,rfl,ex,R1,zhd fun j hj=>by omega⟩
 case round=>
  clear ex R1
  obtain ⟨k,hk,rfl,hb,R1,H⟩:=hrel
  have t3:=R1.zc 3 rfl
  have l1:=R1.lt
  by_cases hlt:k<cs.length
  case neg=>
   have HF:Hid (TaskFew cs):=zhd ⟨by omega,fun j hj=>H.out j (by omega)⟩
   go_wp2
   go_ret
   exact .mk hb (.yes HF.out)
  have q1:=Q1.out k hlt
  obtain ⟨x1,x2,x3,z1,z2,z3,i1,i2,i3⟩:=(H1.out.ext hb).case hlt
  have b1:=World.block_lt_of_cell? _ _ z1
  obtain ⟨xa1,xc1,rfl,_⟩:=i1.form
  obtain ⟨xa2,xc2,rfl,_⟩:=i2.form
  obtain ⟨xa3,xc3,rfl,_⟩:=i3.form
  have KV1:Hid (∀W,Below wr.heap.size wr W→Calls Tryz.prog 101 #[.slice xa2 (nthC cs k).out.length xc2,.int .i64 30] W (Post W fun _ r=>Tells (VecsFew 30 (nthC cs k).out) r)):=zhd fun W hW=>Yr (i2.ext hW) 30
  have KV2:Hid (∀W,Below wr.heap.size wr W→Calls Tryz.prog 101 #[.slice xa3 (nthC cs k).calm.length xc3,.int .i64 30] W (Post W fun _ r=>Tells (VecsFew 30 (nthC cs k).calm) r)):=zhd fun W hW=>Yr (i3.ext hW) 30
  obtain ⟨cd,hcd⟩:∃cd,cd=nthC cs k:=⟨_,rfl⟩
  rw[←hcd]at z1 z2 z3 KV1 KV2
  obtain ⟨n1,hn1⟩:∃n,n=cd.inn.length:=⟨_,rfl⟩
  obtain ⟨n2,hn2⟩:∃n,n=cd.out.length:=⟨_,rfl⟩
  obtain ⟨n3,hn3⟩:∃n,n=cd.calm.length:=⟨_,rfl⟩
  rw[←hn1]at z1
  rw[←hn2]at z2 KV1
  rw[←hn3]at z3 KV2
  have HCD:=zhd (And.intro hcd hn1)
  have RX:=ze wr [.slice xa1 n1 xc1,.slice xa2 n2 xc2,.slice xa3 n3 xc3] 62
  have hx:=zb wr (.cells #[.slice xa1 n1 xc1,.slice xa2 n2 xc2,.slice xa3 n3 xc3] 62)
  have R1b:=R1.alloc (.cells #[.slice xa1 n1 xc1,.slice xa2 n2 xc2,.slice xa3 n3 xc3] 62)
  clear hcd hn1 hn2 hn3 i1 i2 i3
  have y0:=RX.zc 0 rfl
  have y1:=RX.zc 1 rfl
  by_cases h10:10<n1
  ·go_wp2
   go_ret
   exact .mk (za hb hx) .no
  go_wp2_with fail
  refine (KV1.out _ hx).mono ?_
  rintro _ w2 ⟨_,rfl,hb2,b,rfl,hbt⟩
  replace RX:=RX.ext hb2
  replace R1b:=R1b.ext hb2
  replace hx:=za hx hb2
  have HBT:=zhd hbt
  clear t3 l1 q1 z1 z2 z3 b1 y0 y1 hb2 KV1 hbt
  cases b with
  | false=>
   go_wp2
   go_ret
   exact .mk (za hb hx) .no
  | true=>
   have y2:=RX.zc 2 rfl
   go_wp2_with fail
   refine (KV2.out _ hx).mono ?_
   rintro _ w3 ⟨_,rfl,hb3,b,rfl,hbt⟩
   replace R1b:=R1b.ext hb3
   replace hx:=za hx hb3
   have HBT2:=zhd hbt
   have hbx:=za hb hx
   clear y2 hb3 KV2 hbt hx hb R1
   cases b with
   | false=>
    go_wp2
    go_ret
    exact .mk hbx .no
   | true=>
    have HX:Hid (∀j,j<k+1→CaseFew (nthC cs j)):=zhd fun j hj=>by
     by_cases e:j=k
     ·rw[e,←HCD.out.1];exact ⟨by rw[←HCD.out.2];omega,HBT.out (by simp),HBT2.out (by simp)⟩
     ·exact H.out j (by omega)
    go_wp2
    go_roundw
    case rel=>exact ⟨k+1,by omega,by go_num,hbx,R1b,HX⟩
    case measure=>simp[intOf];omega
theorem zet {p:ProbD} (h:1≤p.cs.length) (hx:p.cs.length * cutW p.st p.rounds.toNat 4096 0≤60):p.num≤60:=by
 unfold ProbD.num
 by_cases hc:4096<cntW p.st p.rounds.toNat 0
 ·have h1:=ZF.2 hc
  have h2:=Nat.mul_le_mul_right (cutW p.st p.rounds.toNat 4096 0) h
  omega
 ·rw[←X8 hc];exact hx
theorem zbJ {S S':Nat→Prop} {w:World} {vc vs:Value} {p:ProbD} (hc:Sl kCase S w vc p.cs) (hs:Sl (kSl (kFlat 8)) S' w vs p.st):
  Calls Tryz.prog 37 #[.agg #[.int .i64 p.n,.int .i64 p.ins,.int .i64 p.outs,vc,.int .i64 p.an,vs,.int .i64 p.rounds]] w (Post w fun _ r=>Tells (FewP p) r):=by
 obtain ⟨ca,cc,rfl,_⟩:=hc.form
 obtain ⟨sa,sc,rfl,_⟩:=hs.form
 have KT:Hid (∀W,Below w.heap.size w W→Calls Tryz.prog 74 #[.agg #[.int .i64 p.n,.int .i64 p.ins,.int .i64 p.outs,.slice ca p.cs.length cc]] W (Post W fun _ r=>Tells (TaskFew p.cs) r)):=zhd fun W hW=>zbO _ _ _ (hc.ext hW)
 have KA:Hid (∀W,Below w.heap.size w W→Calls Tryz.prog 75 #[.agg #[.int .i64 p.an,.slice sa p.st.length sc]] W (Post W fun _ r=>r=.bool (fewA p.st))):=zhd fun W hW=>zax _ (hs.ext hW)
 have KC:Hid (∀W,Below w.heap.size w W→Calls Tryz.prog 76 #[.agg #[.int .i64 p.n,.int .i64 p.ins,.int .i64 p.outs,.slice ca p.cs.length cc,.int .i64 p.an,.slice sa p.st.length sc,.int .i64 p.rounds]] W (Post W fun _ r=>r=.int .i64 (checkPr p))):=zhd fun W hW=>qL (hc.ext hW) (hs.ext hW)
 have KN:Hid (checkPr p=0→∀W,Below w.heap.size w W→Calls Tryz.prog 77 #[.agg #[.int .i64 p.n,.int .i64 p.ins,.int .i64 p.outs,.slice ca p.cs.length cc,.int .i64 p.an,.slice sa p.st.length sc,.int .i64 p.rounds],.int .i64 4096] W (Post W fun _ r=>r=.int .i64 (p.cs.length * cutW p.st p.rounds.toNat 4096 0:Nat))):=zhd fun hz W hW=>xh (hc.ext hW) (hs.ext hW) hz 4096 (by omega)
 have ex:=zb w (.cells #[.int .i64 p.n,.int .i64 p.ins,.int .i64 p.outs,.slice ca p.cs.length cc,.int .i64 p.an,.slice sa p.st.length sc,.int .i64 p.rounds] 29)
 have R1:=ze w [.int .i64 p.n,.int .i64 p.ins,.int .i64 p.outs,.slice ca p.cs.length cc,.int .i64 p.an,.slice sa p.st.length sc,.int .i64 p.rounds] 29
 obtain ⟨e1,he1⟩:∃e,e=checkPr p:=⟨_,rfl⟩
 rw[←he1]at KC
 have HE1:=zhd he1
 obtain ⟨fa,hfa⟩:∃fa,fa=fewA p.st:=⟨_,rfl⟩
 rw[←hfa]at KA
 have HFA:=zhd hfa
 clear hc hs he1 hfa
 go_enter Tryz.func37,Tryz.ntmps37
 go_wp2_with fail
 refine (KT.out _ ex).mono ?_
 rintro _ w1 ⟨_,rfl,hb1,b,rfl,hbt⟩
 replace R1:=R1.ext hb1
 replace ex:=za ex hb1
 have HBT:=zhd hbt
 clear hb1 KT hbt
 cases b with
 | false=>
  go_wp2
  go_ret
  exact .mk ex .no
 | true=>
  have HT:Hid (TaskFew p.cs):=zhd (HBT.out (by simp))
  have c4:=R1.zc 4 rfl
  have c5:=R1.zc 5 rfl
  clear HBT
  go_wp2_with fail
  refine (KA.out _ ex).mono ?_
  rintro _ w2 ⟨_,rfl,hb2,rfl⟩
  replace R1:=R1.ext hb2
  replace ex:=za ex hb2
  clear c4 c5 hb2 KA
  cases fa with
  | false=>
   go_wp2
   go_ret
   exact .mk ex .no
  | true=>
   have c0:=R1.zc 0 rfl
   have c1:=R1.zc 1 rfl
   have c2:=R1.zc 2 rfl
   have c3:=R1.zc 3 rfl
   have c4:=R1.zc 4 rfl
   have c5:=R1.zc 5 rfl
   have c6:=R1.zc 6 rfl
   have lR:=R1.lt
   obtain ⟨n,hn⟩:∃n,n=p.n:=⟨_,rfl⟩
   have HNN:=zhd hn
   by_cases h3:3<p.n∧p.n≤5
   ·obtain ⟨h31,h32⟩:=h3
    clear hn
    go_wp2
    go_ret
    exact .mk ex .no
   have HN3:=zhd h3
   have fin:∀(Q:World→Prop),(3<p.n→¬p.n≤5→Q w)→(¬3<p.n→Q w)→Q w:=fun Q h1 h2=>by
    by_cases h:3<p.n
    ·exact h1 h fun h'=>h3 ⟨h,h'⟩
    ·exact h2 h
   clear h3 fin hn
   by_cases h3:3<p.n
   ·have h5:¬p.n≤5:=fun h=>HN3.out ⟨h3,h⟩
    go_wp2_with fail
    refine (KC.out _ ex).mono ?_
    rintro _ w3 ⟨_,rfl,hb3,rfl⟩
    replace ex:=za ex hb3
    clear c0 c1 c2 c3 c4 c5 c6 lR KC hb3
    by_cases h1:e1=0
    ·exfalso
     obtain ⟨N,hok⟩:=probOK (show checkPr p=0 by rw[←HE1.out];exact h1)
     have:=hok.n;have:=hok.n1;omega
    ·have d1:(e1 !=0)=true:=by simp[h1]
     have HF:Hid (FewP p):=zhd ⟨HT.out,HFA.out.symm,HN3.out,fun h=>absurd (by rw[HE1.out];exact h) h1⟩
     clear h1
     go_wp2
     go_ret
     exact .mk ex (.yes HF.out)
   ·go_wp2_with fail
    refine (KC.out _ ex).mono ?_
    rintro _ w3 ⟨_,rfl,hb3,rfl⟩
    replace R1:=R1.ext hb3
    replace ex:=za ex hb3
    clear c0 c1 c2 c3 c4 c5 c6 lR KC hb3
    by_cases h1:e1=0
    case neg=>
     have d1:(e1 !=0)=true:=by simp[h1]
     have HF:Hid (FewP p):=zhd ⟨HT.out,HFA.out.symm,HN3.out,fun h=>absurd (by rw[HE1.out];exact h) h1⟩
     clear h1
     go_wp2
     go_ret
     exact .mk ex (.yes HF.out)
    have HZ:Hid (checkPr p=0):=zhd (by rw[←HE1.out];exact h1)
    have d1:(e1 !=0)=false:=by simp[h1]
    clear h1
    have c0:=R1.zc 0 rfl
    have c1:=R1.zc 1 rfl
    have c2:=R1.zc 2 rfl
    have c3:=R1.zc 3 rfl
    have c4:=R1.zc 4 rfl
    have c5:=R1.zc 5 rfl
    have c6:=R1.zc 6 rfl
    have lR:=R1.lt
    go_wp2_with fail
    refine (KN.out HZ.out _ ex).mono ?_
    rintro _ w4 ⟨_,rfl,hb4,rfl⟩
    replace ex:=za ex hb4
    clear c0 c1 c2 c3 c4 c5 c6 lR KN hb4 d1
    have hcl:1≤p.cs.length:=by obtain ⟨N,hok⟩:=probOK HZ.out;exact hok.c1.1
    have htest:=zaP (p:=p) hcl
    have hfew:=zet (p:=p) hcl
    obtain ⟨q,hq⟩:∃q,q=p.cs.length * cutW p.st p.rounds.toNat 4096 0:=⟨_,rfl⟩
    rw[←hq]at htest hfew ⊢
    have HTE:=zhd (And.intro htest hfew)
    clear hq htest hfew
    by_cases h60:q≤60
    ·have HF:Hid (FewP p):=zhd ⟨HT.out,HFA.out.symm,HN3.out,fun _=>.inl (HTE.out.2 h60)⟩
     have g1:decide ((q:Int)≤60)=true:=decide_eq_true (by omega)
     go_wp2
     go_ret
     exact .mk ex (.yes HF.out)
    ·have g1:decide ((q:Int)≤60)=false:=decide_eq_false (by omega)
     by_cases h40:4096<q
     ·have HF:Hid (FewP p):=zhd ⟨HT.out,HFA.out.symm,HN3.out,fun _=>.inr (HTE.out.1.1 h40)⟩
      have g2:decide ((4096:Int)<(q:Int))=true:=decide_eq_true (by omega)
      go_wp2
      go_ret
      exact .mk ex (.yes HF.out)
     ·have g2:decide ((4096:Int)<(q:Int))=false:=decide_eq_false (by omega)
      go_wp2
      go_ret
      exact .mk ex .no
end Go.Proofs.YtjpakklplhabdaaGreat
