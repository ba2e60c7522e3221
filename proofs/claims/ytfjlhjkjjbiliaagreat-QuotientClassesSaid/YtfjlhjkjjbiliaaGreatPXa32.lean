/- Part of the proof that the laws answer true for every input. -/
import Derived.Test.YtfjlhjkjjbiliaaGreatPXa31
set_option linter.unusedSimpArgs false
set_option linter.unnecessarySimpa false
set_option linter.unusedVariables false
set_option maxRecDepth 100000
set_option maxHeartbeats 40000000
namespace Go.Proofs.YtfjlhjkjjbiliaaGreat
open Go.RowKit
attribute [local go_sem ↓] Go.wp_at_zero Go.wp_at_succ
def ruleE (s:SysF) (ch:List Int):Int:=if verE s=0 then formE s ch else verE s
theorem zag {S S2:Nat→Prop} {w:World} {v vch:Value} {s:SysF} {ch:List Int} (h:SysV S w v s) (hf:PFew s.p) (h2:Ints S2 w vch ch):
  Calls Tryz.prog 54 #[v,.agg #[vch]] w (Post w fun _ r=>r=.int .i64 (ruleE s ch)):=by
 have KV:Hid (∀W,Below w.heap.size w W→Calls Tryz.prog 82 #[v] W (Post W fun _ r=>r=.int .i64 (verE s))):=zhd fun W hW=>Xb (h.ext hW) hf
 have KO:Hid (verE s=0→∀W,Below w.heap.size w W→Calls Tryz.prog 83 #[v,.agg #[vch]] W (Post W fun _ r=>r=.int .i64 (formE s ch))):=zhd fun h0 W hW=>zbn (h.ext hW) (QO h0 (by obtain ⟨_,_,_,_,_,_,hs,_⟩:=h;exact qV hs)).tab (h2.ext hW)
 obtain ⟨vc,vs,vt,vx,rfl,hc,hs,ht,hx⟩:=h
 obtain ⟨ca,cc,rfl,_⟩:=hc.form
 obtain ⟨sa,sc,rfl,_⟩:=hs.form
 obtain ⟨ta,tc,rfl,_⟩:=ht.form
 obtain ⟨xa,xc,rfl,_⟩:=hx.form
 obtain ⟨a2,c2,rfl,_⟩:=h2.form
 have ex:=zg (ze w (.cells #[.int .i64 s.p.n,.int .i64 s.p.ins,.int .i64 s.p.outs,.slice ca s.p.cs.length cc,.int .i64 s.p.an,.slice sa s.p.st.length sc,.int .i64 s.p.rounds,.int .i64 s.tn,.slice ta s.tab.length tc,.slice xa s.ex.length xc] 35)) (.cells #[.slice a2 ch.length c2] 38)
 have R0:=(zh w [.int .i64 s.p.n,.int .i64 s.p.ins,.int .i64 s.p.outs,.slice ca s.p.cs.length cc,.int .i64 s.p.an,.slice sa s.p.st.length sc,.int .i64 s.p.rounds,.int .i64 s.tn,.slice ta s.tab.length tc,.slice xa s.ex.length xc] 35).alloc (.cells #[.slice a2 ch.length c2] 38)
 have R1:=zh (w.alloc (.cells #[.int .i64 s.p.n,.int .i64 s.p.ins,.int .i64 s.p.outs,.slice ca s.p.cs.length cc,.int .i64 s.p.an,.slice sa s.p.st.length sc,.int .i64 s.p.rounds,.int .i64 s.tn,.slice ta s.tab.length tc,.slice xa s.ex.length xc] 35)) [.slice a2 ch.length c2] 38
 rw[World.size_alloc]at R1
 have HR:Hid ((verE s=0→ruleE s ch=formE s ch)∧(verE s≠0→ruleE s ch=verE s)):=zhd ⟨fun h=>by unfold ruleE;rw[if_pos h],fun h=>by unfold ruleE;rw[if_neg h]⟩
 obtain ⟨ve,hve⟩:∃e,e=verE s:=⟨_,rfl⟩
 rw[←hve]at KV KO HR
 have t0:=R0.zc 0 rfl
 have t1:=R0.zc 1 rfl
 have t2:=R0.zc 2 rfl
 have t3:=R0.zc 3 rfl
 have t4:=R0.zc 4 rfl
 have t5:=R0.zc 5 rfl
 have t6:=R0.zc 6 rfl
 have t7:=R0.zc 7 rfl
 have t8:=R0.zc 8 rfl
 have t9:=R0.zc 9 rfl
 have l0:=R0.lt
 clear hc hs ht hx h2 hve hf
 go_enter Tryz.func54,Tryz.ntmps54
 go_wp2_with fail
 refine (KV.out _ ex).mono ?_
 rintro _ w1 ⟨_,rfl,hb1,rfl⟩
 replace R0:=R0.ext hb1
 replace R1:=R1.ext hb1
 replace ex:=zb ex hb1
 clear t0 t1 t2 t3 t4 t5 t6 t7 t8 t9 l0 hb1 KV
 by_cases hv0:ve=0
 case neg=>
  have RE:=zhd (HR.out.2 hv0)
  have d0:(ve !=0)=true:=by simp[hv0]
  clear hv0
  go_wp2
  go_ret
  exact .mk ex (zk RE.out.symm)
 have RE:=zhd (HR.out.1 hv0)
 have d0:(ve !=0)=false:=by simp[hv0]
 replace KO:=zhd (KO.out hv0)
 have t0:=R0.zc 0 rfl
 have t1:=R0.zc 1 rfl
 have t2:=R0.zc 2 rfl
 have t3:=R0.zc 3 rfl
 have t4:=R0.zc 4 rfl
 have t5:=R0.zc 5 rfl
 have t6:=R0.zc 6 rfl
 have t7:=R0.zc 7 rfl
 have t8:=R0.zc 8 rfl
 have t9:=R0.zc 9 rfl
 have l0:=R0.lt
 have r1:=R1.zc 0 rfl
 have l1:=R1.lt
 clear hv0
 go_wp2_with fail
 refine (KO.out _ ex).mono ?_
 rintro _ w2 ⟨_,rfl,hb2,rfl⟩
 replace ex:=zb ex hb2
 clear t0 t1 t2 t3 t4 t5 t6 t7 t8 t9 l0 r1 l1 hb2 KO
 go_wp2
 go_ret
 exact .mk ex (zk RE.out.symm)
theorem ZT {S S2:Nat→Prop} {w:World} {v vch:Value} {s:SysF} {ch:List Int} (h:SysV S w v s) (hf:SmallP s.p) (h2:Ints S2 w vch ch):
  Calls Tryz.prog 34 #[v,.agg #[vch]] w (Post w fun _ r=>r=.int .i64 (ruleE s ch)):=by
 have KV:Hid (∀W,Below w.heap.size w W→Calls Tryz.prog 55 #[v] W (Post W fun _ r=>r=.int .i64 (verE s))):=zhd fun W hW=>QQ (h.ext hW) hf
 have KO:Hid (verE s=0→∀W,Below w.heap.size w W→Calls Tryz.prog 56 #[v,.agg #[vch]] W (Post W fun _ r=>r=.int .i64 (formE s ch))):=zhd fun h0 W hW=>zbD (h.ext hW) (QO h0 (by obtain ⟨_,_,_,_,_,_,hs,_⟩:=h;exact qV hs)).tab (h2.ext hW)
 obtain ⟨vc,vs,vt,vx,rfl,hc,hs,ht,hx⟩:=h
 obtain ⟨ca,cc,rfl,_⟩:=hc.form
 obtain ⟨sa,sc,rfl,_⟩:=hs.form
 obtain ⟨ta,tc,rfl,_⟩:=ht.form
 obtain ⟨xa,xc,rfl,_⟩:=hx.form
 obtain ⟨a2,c2,rfl,_⟩:=h2.form
 have ex:=zg (ze w (.cells #[.int .i64 s.p.n,.int .i64 s.p.ins,.int .i64 s.p.outs,.slice ca s.p.cs.length cc,.int .i64 s.p.an,.slice sa s.p.st.length sc,.int .i64 s.p.rounds,.int .i64 s.tn,.slice ta s.tab.length tc,.slice xa s.ex.length xc] 35)) (.cells #[.slice a2 ch.length c2] 38)
 have R0:=(zh w [.int .i64 s.p.n,.int .i64 s.p.ins,.int .i64 s.p.outs,.slice ca s.p.cs.length cc,.int .i64 s.p.an,.slice sa s.p.st.length sc,.int .i64 s.p.rounds,.int .i64 s.tn,.slice ta s.tab.length tc,.slice xa s.ex.length xc] 35).alloc (.cells #[.slice a2 ch.length c2] 38)
 have R1:=zh (w.alloc (.cells #[.int .i64 s.p.n,.int .i64 s.p.ins,.int .i64 s.p.outs,.slice ca s.p.cs.length cc,.int .i64 s.p.an,.slice sa s.p.st.length sc,.int .i64 s.p.rounds,.int .i64 s.tn,.slice ta s.tab.length tc,.slice xa s.ex.length xc] 35)) [.slice a2 ch.length c2] 38
 rw[World.size_alloc]at R1
 have HR:Hid ((verE s=0→ruleE s ch=formE s ch)∧(verE s≠0→ruleE s ch=verE s)):=zhd ⟨fun h=>by unfold ruleE;rw[if_pos h],fun h=>by unfold ruleE;rw[if_neg h]⟩
 obtain ⟨ve,hve⟩:∃e,e=verE s:=⟨_,rfl⟩
 rw[←hve]at KV KO HR
 have t0:=R0.zc 0 rfl
 have t1:=R0.zc 1 rfl
 have t2:=R0.zc 2 rfl
 have t3:=R0.zc 3 rfl
 have t4:=R0.zc 4 rfl
 have t5:=R0.zc 5 rfl
 have t6:=R0.zc 6 rfl
 have t7:=R0.zc 7 rfl
 have t8:=R0.zc 8 rfl
 have t9:=R0.zc 9 rfl
 have l0:=R0.lt
 clear hc hs ht hx h2 hve hf
 go_enter Tryz.func34,Tryz.ntmps34
 go_wp2_with fail
 refine (KV.out _ ex).mono ?_
 rintro _ w1 ⟨_,rfl,hb1,rfl⟩
 replace R0:=R0.ext hb1
 replace R1:=R1.ext hb1
 replace ex:=zb ex hb1
 clear t0 t1 t2 t3 t4 t5 t6 t7 t8 t9 l0 hb1 KV
 by_cases hv0:ve=0
 case neg=>
  have RE:=zhd (HR.out.2 hv0)
  have d0:(ve !=0)=true:=by simp[hv0]
  clear hv0
  go_wp2
  go_ret
  exact .mk ex (zk RE.out.symm)
 have RE:=zhd (HR.out.1 hv0)
 have d0:(ve !=0)=false:=by simp[hv0]
 replace KO:=zhd (KO.out hv0)
 have t0:=R0.zc 0 rfl
 have t1:=R0.zc 1 rfl
 have t2:=R0.zc 2 rfl
 have t3:=R0.zc 3 rfl
 have t4:=R0.zc 4 rfl
 have t5:=R0.zc 5 rfl
 have t6:=R0.zc 6 rfl
 have t7:=R0.zc 7 rfl
 have t8:=R0.zc 8 rfl
 have t9:=R0.zc 9 rfl
 have l0:=R0.lt
 have r1:=R1.zc 0 rfl
 have l1:=R1.lt
 clear hv0
 go_wp2_with fail
 refine (KO.out _ ex).mono ?_
 rintro _ w2 ⟨_,rfl,hb2,rfl⟩
 replace ex:=zb ex hb2
 clear t0 t1 t2 t3 t4 t5 t6 t7 t8 t9 l0 r1 l1 hb2 KO
 go_wp2
 go_ret
 exact .mk ex (zk RE.out.symm)
def finL (s:SysF) (e:Nat):List Int:=nthL (nthX s.ex e).vs s.K
theorem GoodS.rndK {s:SysF} {N K:Nat} (h:GoodS s N K):K=s.K:=by unfold SysF.K;rw[h.rnd];exact (Int.toNat_natCast K).symm
theorem GoodS.fin {s:SysF} {N K:Nat} (h:GoodS s N K) {e:Nat} (he:e<s.ex.length):(finL s e).length=N∧∀q,q<N→∃z:Nat,nth (finL s e) q=z∧z<s.tab.length:=by
 unfold finL
 rw[←h.rndK]
 obtain ⟨c,hc⟩:=h.ex e he
 exact ⟨hc.rows K (Nat.le_refl _),fun q hq=>by obtain ⟨v,h1,h2,_⟩:=h.view he (Nat.le_refl K) hq;exact ⟨v,h2,h1⟩⟩
theorem SysV.moves8 {S:Nat→Prop} {w:World} {v:Value} {s:SysF} (h:SysV S w v s):Moves8 s.p.st:=by obtain ⟨_,_,_,_,_,_,hs,_⟩:=h;exact qV hs
theorem zbG {s:SysF} {ch:List Int} (h:ruleE s ch=0):verE s=0∧ch.length=s.tab.length∧formE s ch=0:=by
 unfold ruleE at h
 split at h
 ·rename_i h0
  refine ⟨h0,?_,h⟩
  unfold formE at h
  split at h
  ·assumption
  ·omega
 ·rename_i h0;exact absurd h h0
def minT (f:Nat→Bool):Nat→Nat→Int
 | _,0=> -1
 | k,n+1=>if f k then k else minT f (k+1) n
theorem SysV.num {S:Nat→Prop} {w:World} {v:Value} {s:SysF} (h:SysV S w v s):s.tab.length≤maxLen∧s.ex.length≤maxLen:=by
 obtain ⟨vc,vs,vt,vx,rfl,hc,hs,ht,hx⟩:=h
 exact ⟨ht.len,hx.len⟩
def oblB (s:SysF) (e q:Nat):Bool:=(maskW s.N (nthX s.ex e).word).testBit q
end Go.Proofs.YtfjlhjkjjbiliaaGreat
namespace Go.Proofs.YtfjlhjkjjbiliaaGreat
def fvw (s:SysF) (e q:Nat):Int:=if oblB s e q=true then nth (finL s e) q else -1
def lkB (s:SysF) (q e f:Nat):Bool:=decide (0≤fvw s e q)&&decide (fvw s e q=fvw s f q)
theorem zf4 {s:SysF} {q e f:Nat}:lkB s q e f=true↔0≤fvw s e q∧fvw s e q=fvw s f q:=by
 unfold lkB;rw[Bool.and_eq_true,decide_eq_true_iff,decide_eq_true_iff]
theorem QU {s:SysF} {q e f:Nat} (h:lkB s q e f=true):lkB s q f e=true:=by
 rw[zf4]at h ⊢;omega
theorem zfa (s:SysF) (q e f:Nat):lkB s q e f=lkB s q f e:=by
 rw[Bool.eq_iff_iff];exact ⟨QU,QU⟩
def setTo (b:Nat→Bool):Nat→Nat
 | 0=>0
 | k+1=>if b k then setTo b k|||2 ^ k else setTo b k
theorem qJ (b:Nat→Bool) (i:Nat):∀n,(setTo b n).testBit i=(decide (i<n)&&b i)
 | 0=>by simp[setTo]
 | n+1=>by
  unfold setTo
  by_cases e:i=n
  ·subst e
   cases h:b i with
   | true=>simp[Nat.testBit_or,Nat.testBit_two_pow]
   | false=>simp[qJ b i i]
  ·have h1:decide (i<n+1)=decide (i<n):=by simp;omega
   rw[h1,←qJ b i n]
   split
   ·rw[Nat.testBit_or,Nat.testBit_two_pow]
    have:decide (n=i)=false:=decide_eq_false (fun h=>e h.symm)
    rw[this,Bool.or_false]
   ·rfl
def byN (s:SysF) (e f:Nat):Nat:=setTo (fun q=>lkB s q e f) s.N
theorem zds (s:SysF) (e f q:Nat):(byN s e f).testBit q=(decide (q<s.N)&&lkB s q e f):=qJ _ _ _
theorem zfy (s:SysF) (e f:Nat):byN s e f=byN s f e:=by
 apply Nat.eq_of_testBit_eq
 intro i
 rw[zds,zds,zfa]
def adjB (s:SysF) (e f:Nat):Bool:= !(byN s e f==0)&& !(e==f)
theorem zbM {s:SysF} {e f:Nat}:adjB s e f=true↔byN s e f≠0∧e≠f:=by
 unfold adjB;simp
theorem zd3 (s:SysF) (e f:Nat):adjB s e f=adjB s f e:=by
 rw[Bool.eq_iff_iff,zbM,zbM,zfy]
 constructor<;>rintro ⟨a,b⟩<;>exact ⟨a,fun h=>b h.symm⟩
def stpB (s:SysF) (f:Nat):Nat→Nat→Bool
 | 0,e=>e==f
 | d+1,e=>(List.range s.ex.length).any fun g=>adjB s e g&&stpB s f d g
theorem QR {s:SysF} {f e d:Nat}:stpB s f (d+1) e=true↔∃g,g<s.ex.length∧adjB s e g=true∧stpB s f d g=true:=by
 rw[show stpB s f (d+1) e=(List.range s.ex.length).any fun g=>adjB s e g&&stpB s f d g from rfl]
 simp only[List.any_eq_true,List.mem_range,Bool.and_eq_true]
theorem zee:∀(n m:Nat) (f:Nat→Nat),(∀i,i<m→f i<n)→(∀i j,i<m→j<m→f i=f j→i=j)→m≤n
 | 0,m,f,h,_=>by
  apply Decidable.byContradiction
  intro hm
  have:=h 0 (by omega)
  omega
 | n+1,m,f,h,hi=>by
  by_cases hx:∃k,k<m∧f k=n
  ·obtain ⟨k,hk,hkn⟩:=hx
   have:=zee n (m - 1) (fun i=>if i<k then f i else f (i+1)) (fun i him=>by
    split
    ·rename_i h1
     have h2:=h i (by omega)
     have:f i≠n:=fun e=>by have:=hi i k (by omega) hk (by omega);omega
     omega
    ·rename_i h1
     have h2:=h (i+1) (by omega)
     have:f (i+1)≠n:=fun e=>by have:=hi (i+1) k (by omega) hk (by omega);omega
     omega) (fun i j him hjm e=>by
    split at e<;>split at e
    ·exact hi i j (by omega) (by omega) e
    ·have:=hi i (j+1) (by omega) (by omega) e;omega
    ·have:=hi (i+1) j (by omega) (by omega) e;omega
    ·have:=hi (i+1) (j+1) (by omega) (by omega) e;omega)
   omega
  ·have:=zee n m f (fun i him=>by
    have h1:=h i him
    have:f i≠n:=fun e=>hx ⟨i,him,e⟩
    omega) hi
   omega
def Lst (s:SysF) (f d e:Nat):Prop:=stpB s f d e=true∧∀k,k<d→stpB s f k e=false
theorem zfL {s:SysF} {f e:Nat}:∀{d:Nat},stpB s f d e=true→∃k,k≤d∧Lst s f k e:=by
 intro d
 induction d using Nat.strongRecOn with
 | ind d ih=>
  intro h
  by_cases hx:∃k,k<d∧stpB s f k e=true
  ·obtain ⟨k,hk,h1⟩:=hx
   obtain ⟨j,hj,h2⟩:=ih k hk h1
   exact ⟨j,by omega,h2⟩
  ·refine ⟨d,Nat.le_refl _,h,fun k hk=>?_⟩
   cases e1:stpB s f k e with
   | false=>rfl
   | true=>exact absurd ⟨k,hk,e1⟩ hx
theorem zb1 {s:SysF} {f d k e:Nat} (h:Lst s f d e) (h':Lst s f k e):d=k:=by
 rcases Nat.lt_trichotomy d k with h1 | h1 | h1
 ·have:=h'.2 d h1;rw[h.1]at this;cases this
 ·exact h1
 ·have:=h.2 k h1;rw[h'.1]at this;cases this
theorem zfE {s:SysF} {f d e:Nat} (h:Lst s f (d+1) e):∃g,g<s.ex.length∧adjB s e g=true∧Lst s f d g:=by
 obtain ⟨g,hg,h1,h2⟩:=QR.1 h.1
 refine ⟨g,hg,h1,h2,fun k hk=>?_⟩
 cases e1:stpB s f k g with
 | false=>rfl
 | true=>
  have:=h.2 (k+1) (by omega)
  rw[QR.2 ⟨g,hg,h1,e1⟩]at this
  cases this
theorem zbH {s:SysF} {f:Nat}:∀{d e:Nat},e<s.ex.length→Lst s f d e→∀k,k≤d→∃g,g<s.ex.length∧Lst s f k g
 | 0,e,he,h,k,hk=>by
  obtain rfl:k=0:=by omega
  exact ⟨e,he,h⟩
 | d+1,e,he,h,k,hk=>by
  by_cases e1:k=d+1
  ·subst e1;exact ⟨e,he,h⟩
  ·obtain ⟨g,hg,_,h2⟩:=zfE h
   exact zbH hg h2 k (by omega)
theorem zgw {s:SysF} {f d e:Nat} (he:e<s.ex.length) (h:Lst s f d e):d<s.ex.length:=by
 have hd:=fun k=>zbH he h k
 have:=zee s.ex.length (d+1) (fun k=>if hk:k≤d then (hd k hk).choose else 0) (fun i hi=>by
  rw[dif_pos (show i≤d by omega)]
  exact (hd i (by omega)).choose_spec.1) (fun i j hi hj e1=>by
  rw[dif_pos (show i≤d by omega),dif_pos (show j≤d by omega)]at e1
  have h1:=(hd i (by omega)).choose_spec.2
  have h2:=(hd j (by omega)).choose_spec.2
  rw[e1]at h1
  exact zb1 h1 h2)
 omega
def dstV (s:SysF) (f e:Nat):Int:=minT (fun d=>stpB s f d e) 0 s.ex.length
theorem zbT {s:SysF} (f:Nat) {e:Nat} (he:e<s.ex.length):(dstV s f e= -1∧∀d,stpB s f d e=false)∨∃d:Nat,dstV s f e=d∧Lst s f d e:=by
 have hs:∀n k,(minT (fun d=>stpB s f d e) k n= -1∧∀i,k≤i→i<k+n→stpB s f i e=false)∨∃t:Nat,minT (fun d=>stpB s f d e) k n=t∧k≤t∧t<k+n∧stpB s f t e=true∧∀i,k≤i→i<t→stpB s f i e=false:=by
  intro n
  induction n with
  | zero=>intro k;exact .inl ⟨rfl,fun i h1 h2=>by omega⟩
  | succ n ih=>
   intro k
   rw[show minT (fun d=>stpB s f d e) k (n+1)=if stpB s f k e then (k:Int) else minT (fun d=>stpB s f d e) (k+1) n from rfl]
   cases h:stpB s f k e with
   | true=>rw[if_pos rfl];exact .inr ⟨k,rfl,Nat.le_refl _,by omega,h,fun i h1 h2=>by omega⟩
   | false=>
    rw[if_neg (by simp)]
    rcases ih (k+1) with ⟨h1,h2⟩ | ⟨t,h1,h2,h3,h4,h5⟩
    ·refine .inl ⟨h1,fun i h3 h4=>?_⟩
     by_cases e1:i=k
     ·subst e1;exact h
     ·exact h2 i (by omega) (by omega)
    ·refine .inr ⟨t,h1,by omega,by omega,h4,fun i h6 h7=>?_⟩
     by_cases e1:i=k
     ·subst e1;exact h
     ·exact h5 i (by omega) (by omega)
 rcases hs s.ex.length 0 with ⟨h1,h2⟩ | ⟨t,h1,_,_,h4,h5⟩
 ·refine .inl ⟨h1,fun d=>?_⟩
  cases hd:stpB s f d e with
  | false=>rfl
  | true=>
   obtain ⟨k,_,hl⟩:=zfL hd
   have h3:=zgw he hl
   have:=h2 k (by omega) (by omega)
   rw[hl.1]at this;cases this
 ·exact .inr ⟨t,h1,h4,fun i hi=>h5 i (by omega) hi⟩
theorem zf3 {s:SysF} {f d e:Nat} (he:e<s.ex.length) (h:Lst s f d e):dstV s f e=d:=by
 rcases zbT f he with ⟨_,h1⟩ | ⟨k,h1,h2⟩
 ·have:=h1 d;rw[h.1]at this;cases this
 ·rw[h1,zb1 h2 h]
theorem zgl {s:SysF} {f e g:Nat} (he:e<s.ex.length) (hg:g<s.ex.length) (h:adjB s e g=true) (h0:0≤dstV s f g):0≤dstV s f e∧dstV s f e≤dstV s f g+1:=by
 rcases zbT f hg with ⟨a,_⟩ | ⟨k,a,b⟩
 ·omega
 ·obtain ⟨m,hm,hl⟩:=zfL (QR.2 ⟨g,hg,h,b.1⟩)
  have:=zf3 he hl
  omega
end Go.Proofs.YtfjlhjkjjbiliaaGreat
