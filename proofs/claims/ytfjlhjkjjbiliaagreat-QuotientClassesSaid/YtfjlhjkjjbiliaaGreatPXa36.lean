/- Part of the proof that the laws answer true for every input. -/
import Derived.Test.YtfjlhjkjjbiliaaGreatPXa35
import Derived.Test.YtfjlhjkjjbiliaaGreatPXa08
import Derived.Test.YtfjlhjkjjbiliaaGreatPXa32
set_option linter.unusedSimpArgs false
set_option linter.unnecessarySimpa false
set_option linter.unusedVariables false
set_option maxRecDepth 100000
set_option maxHeartbeats 40000000
namespace Go.Proofs.YtfjlhjkjjbiliaaGreat
open Go.RowKit
attribute [local go_sem ↓] Go.wp_at_zero Go.wp_at_succ
def FolTo (T:List (List Int)) (lab:Nat→Int) (v w k:Nat):Prop:=∀u,u<k→hrsB T u v=true→0≤repT T u v w∧lab (repT T u v w).toNat=lab u
theorem FolTo.next {T:List (List Int)} {lab:Nat→Int} {v w k:Nat} (h:FolTo T lab v w k) (hk:hrsB T k v=true→0≤repT T k v w∧lab (repT T k v w).toNat=lab k):FolTo T lab v w (k+1):=fun u hu hh=>by
 by_cases e:u=k
 ·subst e;exact hk hh
 ·exact h u (by omega) hh
theorem FolTo.done {T:List (List Int)} {lab:Nat→Int} {v w:Nat} (h:FolTo T lab v w T.length):folB T lab v w=true:=ym.2 h
theorem zeE {T:List (List Int)} {lab:Nat→Int} {v w k:Nat} (hk:k<T.length) (hh:hrsB T k v=true) (h:¬(0≤repT T k v w∧lab (repT T k v w).toNat=lab k)):folB T lab v w=false:=by
 cases e:folB T lab v w with
 | false=>rfl
 | true=>exact absurd (ym.1 e k hk hh) h
theorem zcx {S S2:Nat→Prop} {w:World} {v vl:Value} {s:SysF} {L:List Int} {u x:Nat} (h:SysV S w v s) (hg:GoodS s s.N s.K) (h2:Ints S2 w vl L) (hl:L.length=s.tab.length) (hu:u<s.tab.length) (hx':x<s.tab.length) (hm:s.tab.length≤100000):
  Calls Tryz.prog 58 #[v,vl,.int .i64 u,.int .i64 x] w (Post w fun _ r=>r=.bool (folB s.tab (nth L) u x)):=by
 have KH:Hid (∀k,k<s.tab.length→∀W,Below w.heap.size w W→Calls Tryz.prog 67 #[v,.int .i64 k,.int .i64 u] W (Post W fun _ r=>r=.bool (hrsB s.tab k u))):=zhd fun k hk W hW=>XF (h.ext hW) hg hk hu
 have KR:Hid (∀k,k<s.tab.length→∀W,Below w.heap.size w W→Calls Tryz.prog 68 #[v,.int .i64 k,.int .i64 u,.int .i64 x] W (Post W fun _ r=>r=.int .i64 (repT s.tab k u x))):=zhd fun k hk W hW=>zci (h.ext hW) hg hk hu (WF.small (by omega))
 obtain ⟨vc,vs,vt,vx,rfl,hc,hs,ht,hx⟩:=h
 obtain ⟨ca,cc,rfl,_⟩:=hc.form
 obtain ⟨sa,sc,rfl,_⟩:=hs.form
 obtain ⟨ta,tc,rfl,_⟩:=ht.form
 obtain ⟨xa,xc,rfl,_⟩:=hx.form
 obtain ⟨a2,c2,rfl,_⟩:=h2.form
 have HI:=zhd h2
 have HLL:=zhd hl
 have ex:=ze w (.cells #[.int .i64 s.p.n,.int .i64 s.p.ins,.int .i64 s.p.outs,.slice ca s.p.cs.length cc,.int .i64 s.p.an,.slice sa s.p.st.length sc,.int .i64 s.p.rounds,.int .i64 s.tn,.slice ta s.tab.length tc,.slice xa s.ex.length xc] 35)
 have R0:=zh w [.int .i64 s.p.n,.int .i64 s.p.ins,.int .i64 s.p.outs,.slice ca s.p.cs.length cc,.int .i64 s.p.an,.slice sa s.p.st.length sc,.int .i64 s.p.rounds,.int .i64 s.tn,.slice ta s.tab.length tc,.slice xa s.ex.length xc] 35
 have HT:Hid (FolTo s.tab (nth L) u x s.tab.length→folB s.tab (nth L) u x=true):=zhd FolTo.done
 have HN:Hid (∀k,k<s.tab.length→hrsB s.tab k u=true→¬(0≤repT s.tab k u x∧nth L (repT s.tab k u x).toNat=nth L k)→folB s.tab (nth L) u x=false):=zhd fun k=>zeE
 obtain ⟨r,hr⟩:∃r,r=folB s.tab (nth L) u x:=⟨_,rfl⟩
 rw[←hr]at HT HN ⊢
 have H0:Hid (FolTo s.tab (nth L) u x 0):=zhd fun u hu=>by omega
 have HB:Hid (∀k, -1≤repT s.tab k u x∧repT s.tab k u x<s.tab.length):=zhd fun k=>xO
 obtain ⟨n,hn⟩:∃n,n=L.length:=⟨_,rfl⟩
 rw[←hn]at HI ⊢
 have HNN:Hid (n=s.tab.length):=zhd (hn.trans hl)
 have HNL:Hid (n=L.length):=zhd hn
 have hn100:n≤100000:=by omega
 clear hc hs ht hx hg hr h2 hl hn hu hx' hm
 go_enter Tryz.func58,Tryz.ntmps58
 go_wp2
 go_loopw [9,10] (fun i _ wr=>∃k:Nat,k≤n∧i=.int .i64 k∧Hid (FolTo s.tab (nth L) u x k)∧Below w.heap.size w wr∧Row wr w.heap.size 35 [.int .i64 s.p.n,.int .i64 s.p.ins,.int .i64 s.p.outs,.slice ca s.p.cs.length cc,.int .i64 s.p.an,.slice sa s.p.st.length sc,.int .i64 s.p.rounds,.int .i64 s.tn,.slice ta s.tab.length tc,.slice xa s.ex.length xc]) (fun i _ _=>n - (intOf i).toNat)
 case atStart=>exact ⟨0,Nat.zero_le _,rfl,H0,ex,R0⟩
 case round=>
  clear ex R0
  obtain ⟨k,hk,rfl,HF,ex,R0⟩:=hrel
  have t0:=R0.zc 0 rfl
  have t1:=R0.zc 1 rfl
  have t2:=R0.zc 2 rfl
  have t3:=R0.zc 3 rfl
  have t4:=R0.zc 4 rfl
  have t5:=R0.zc 5 rfl
  have t6:=R0.zc 6 rfl
  have t7:=R0.zc 7 rfl
  have t8:=R0.zc 8 rfl
  have t9:=R0.zc 9 rfl
  have l0:=R0.lt
  by_cases hlt:k<n
  case neg=>
   have HR:Hid (r=true):=zhd (HT.out (by have:=HNN.out;rw[←this,show n=k by omega];exact HF.out))
   go_wp2
   go_ret
   exact .mk ex (zr HR.out.symm)
  have hkt:k<s.tab.length:=by have:=HNN.out;omega
  have KH2:=zhd (KH.out k hkt wr ex)
  have KR2:=zhd (KR.out k hkt)
  have HNX:Hid ((hrsB s.tab k u=true→0≤repT s.tab k u x∧nth L (repT s.tab k u x).toNat=nth L k)→FolTo s.tab (nth L) u x (k+1)):=zhd fun hh=>HF.out.next hh
  have HST:=zhd (HN.out k hkt)
  have HBK:=zhd (HB.out k)
  obtain ⟨b,hb⟩:∃b,b=hrsB s.tab k u:=⟨_,rfl⟩
  obtain ⟨y,hy⟩:∃y,y=repT s.tab k u x:=⟨_,rfl⟩
  rw[←hb]at KH2 HNX HST
  rw[←hy]at KR2 HNX HST HBK
  clear hb hy hkt
  go_wp2_with fail
  refine (KH2.out).mono ?_
  rintro _ w1 ⟨_,rfl,hb,rfl⟩
  replace R0:=R0.ext hb
  replace ex:=zb ex hb
  clear hb KH2 t0 t1 t2 t3 t4 t5 t6 t7 t8 t9 l0
  cases b with
  | false=>
   have HF2:=zhd (HNX.out fun h=>by cases h)
   go_wp2
   go_roundw
   case rel=>exact ⟨k+1,by omega,by go_num,HF2,ex,R0⟩
   case measure=>simp[intOf];omega
  | true=>
   have t0:=R0.zc 0 rfl
   have t1:=R0.zc 1 rfl
   have t2:=R0.zc 2 rfl
   have t3:=R0.zc 3 rfl
   have t4:=R0.zc 4 rfl
   have t5:=R0.zc 5 rfl
   have t6:=R0.zc 6 rfl
   have t7:=R0.zc 7 rfl
   have t8:=R0.zc 8 rfl
   have t9:=R0.zc 9 rfl
   have l0:=R0.lt
   go_wp2_with fail
   refine (KR2.out _ ex).mono ?_
   rintro _ w2 ⟨_,rfl,hb,rfl⟩
   replace R0:=R0.ext hb
   replace ex:=zb ex hb
   clear hb KR2 t0 t1 t2 t3 t4 t5 t6 t7 t8 t9 l0
   by_cases hy0:y<0
   ·have d1:decide (y<0)=true:=decide_eq_true hy0
    have HR:Hid (r=false):=zhd (HST.out trivial (fun h=>by omega))
    have HY:=zhd hy0
    clear hy0
    go_wp2
    go_quiet (fail)
    go_wp2
    go_ret
    exact .mk (zb ex (zf _ _ _)) (zr HR.out.symm)
   ·obtain ⟨z,rfl⟩:∃z:Nat,y=z:=⟨y.toNat,by omega⟩
    have hzn:z<n:=by have:=HBK.out.2;have:=HNN.out;omega
    have hi:=HI.out.ext ex
    have qz:∀W:World,(Instr.indexAt 36 (.slice a2 n c2) (.int .i64 z)).run Tryz.prog W=.ok (.pointer (some (adr a2 z))) W:=fun W=>by rw[HNL.out];exact (show Ints S2 _ (.slice a2 L.length c2) L by rw[←HNL.out];exact hi).idx (by rw[←HNL.out];exact hzn) W
    have qk:∀W:World,(Instr.indexAt 36 (.slice a2 n c2) (.int .i64 k)).run Tryz.prog W=.ok (.pointer (some (adr a2 k))) W:=fun W=>by rw[HNL.out];exact (show Ints S2 _ (.slice a2 L.length c2) L by rw[←HNL.out];exact hi).idx (by rw[←HNL.out];exact hlt) W
    have cz:=hi.cellN (k:=z) (by rw[←HNL.out];exact hzn)
    have ck:=hi.cellN (k:=k) (by rw[←HNL.out];exact hlt)
    have bz:=World.block_lt_of_cell? _ _ cz
    have bk:=World.block_lt_of_cell? _ _ ck
    obtain ⟨lz,hlz⟩:∃l,l=nth L z:=⟨_,rfl⟩
    obtain ⟨lk,hlk⟩:∃l,l=nth L k:=⟨_,rfl⟩
    rw[←hlz]at cz
    rw[←hlk]at ck
    have HZ:=zhd hlz
    have HK:=zhd hlk
    have d1:decide ((z:Int)<0)=false:=decide_eq_false (by omega)
    have yb:=fun n=>zb ex (zf w2.heap.size w2 n)
    have yR:=fun n=>R0.ext (zf w2.heap.size w2 n)
    clear hy0 hi hlz hlk
    by_cases he:lz=lk
    ·have HF2:=zhd (HNX.out fun _=>⟨by omega,by rw[Int.toNat_natCast,←HZ.out,←HK.out,he]⟩)
     have d2:(lz !=lk)=false:=by simp[he]
     clear ex R0 he
     go_wp2
     go_quiet (fail)
     go_wp2
     go_roundw
     case rel=>exact ⟨k+1,by omega,by go_num,HF2,yb _,yR _⟩
     case measure=>simp[intOf];omega
    ·have HR:Hid (r=false):=zhd (HST.out trivial (fun h=>he (by rw[HZ.out,HK.out];have:=h.2;rwa [Int.toNat_natCast]at this)))
     have d2:(lz !=lk)=true:=by simp[he]
     clear ex R0 he
     go_wp2
     go_quiet (fail)
     go_wp2
     go_ret
     exact .mk (yb _) (zr HR.out.symm)
theorem zbX (m:Nat):(m=0∧Value.int .i64 ((m:Int) - 1)=.int .i64 (-1))∨∃k,m=k+1∧Value.int .i64 ((m:Int) - 1)=.int .i64 (k:Int):=by
 cases m with
 | zero=>exact .inl ⟨rfl,rfl⟩
 | succ k=>exact .inr ⟨k,rfl,zk (by omega)⟩
theorem rowInt {w:World} {g:Nat} {t:TypeId} {l:List Int} (R:Row w g t (l.map (Value.int .i64))) {k:Nat} (h:k<l.length):w.cell? ⟨g,k,none⟩=some (.int .i64 (nth l k)):=R.cell (j:=k) (by rw[List.getElem?_map,get?_nth h];rfl)
theorem rowSet {w:World} {g:Nat} {t:TypeId} {l:List Int} (R:Row w g t (l.map (Value.int .i64))) (k:Nat) (x:Int):Row (w.setCell ⟨g,k,none⟩ (.int .i64 x)) g t ((l.set k x).map (Value.int .i64)):=by
 rw[List.map_set];exact R.set k _
theorem zdh {N K:Nat} {T:List (List Int)} (hT:TabOK N K T) (hn:T.Nodup) {ch:List Int} (hm:T.length≤100000):∀{m u:Nat},u<T.length→WF (quoF T ch K m u)
 | 0,u,hu=>WF.small (show -1000000000≤(0:Int)∧(0:Int)≤1000000000 by decide)
 | m+1,u,hu=>by
  show WF (if rndT T u+m=K then ((lstV T ch (quoF T ch K m) u:Nat):Int) else quoF T ch K m u)
  split
  ·have:=(yl hn ch (quoF T ch K m) u).1
   exact WF.small (by omega)
  ·exact zdh hT hn hm hu
theorem zfJ {N K:Nat} {T:List (List Int)} (hT:TabOK N K T) (hn:T.Nodup) {ch:List Int} (hm:T.length≤100000) {m j u:Nat} (hu:u<T.length):WF (labP T ch K m j u):=by
 unfold labP
 split
 ·have:=(yl hn ch (quoF T ch K m) u).1
  exact WF.small (by omega)
 ·exact zdh hT hn hm hu
theorem zdc {T:List (List Int)} (ch:List Int) (K:Nat) (hm:T.length≤100000) (hn:T.Nodup) {N:Nat} (hT:TabOK N K T):∀x∈keys (quoE T ch K) T.length,WF x:=fun x hx=>by
 obtain ⟨i,hi,rfl⟩:=QD.1 hx
 rw[zbc hT hi]
 have:=(yl hn ch (quoF T ch K (K - rndT T i)) i).1
 exact WF.small (by omega)
theorem YW {S S2:Nat→Prop} {w:World} {v vch:Value} {s:SysF} {ch:List Int} (h:SysV S w v s) (hg:GoodS s s.N s.K) (h2:Ints S2 w vch ch) (hl:ch.length=s.tab.length) (hm:s.tab.length≤60000):
  Calls Tryz.prog 35 #[v,.agg #[vch]] w (Post w fun w' r=>Ints (fun b=>w.heap.size≤b) w' r (quoL s ch)):=by
 have KA:Hid (∀u x,u<s.tab.length→x<s.tab.length→∀W,Below w.heap.size w W→Calls Tryz.prog 57 #[v,.agg #[vch],.int .i64 u,.int .i64 x] W (Post W fun _ r=>r=.bool (alkB s.tab ch u x))):=zhd fun u x hu hx W hW=>zao (h.ext hW) hg (h2.ext hW) hl hu hx
 have KF:Hid (∀S3 vl L u x,L.length=s.tab.length→u<s.tab.length→x<s.tab.length→∀W,Below w.heap.size w W→Ints S3 W vl L→Calls Tryz.prog 58 #[v,vl,.int .i64 u,.int .i64 x] W (Post W fun _ r=>r=.bool (folB s.tab (nth L) u x))):=zhd fun S3 vl L u x hL hu hx W hW hi=>zcx (h.ext hW) hg hi hL hu hx (by omega)
 obtain ⟨vc,vs,vt,vx,rfl,hc,hs,ht,hx⟩:=h
 obtain ⟨ca,cc,rfl,_⟩:=hc.form
 obtain ⟨sa,sc,rfl,_⟩:=hs.form
 obtain ⟨ta,tc,rfl,_⟩:=ht.form
 obtain ⟨xa,xc,rfl,_⟩:=hx.form
 obtain ⟨_,_,hee,tad,_⟩:=ht.form2
 cases hee
 obtain ⟨i0,hi,hz⟩:=zE zJ
 have HQ:=zhd (zC Tryz.underlying30 hi hz tad)
 obtain ⟨a2,c2,rfl,_⟩:=h2.form
 have HTC:Hid (∀u,u<s.tab.length→w.cell? ⟨(adr ta (u * 8)).block,(adr ta (u * 8)).off+1,none⟩=some (.int .i64 (rndT s.tab u:Int))):=zhd fun u hu=>by
  have:=(ht.nums (k:=u) hu (by decide)).2 1 (by decide)
  rw[(yi hg.tab hu).1]at this;exact this
 have HTB:=zhd hg.tab
 have HND:=zhd hg.nodup
 have HRD:=zhd hg.rnd
 have HRN:Hid (∀u,u<s.tab.length→rndT s.tab u≤s.K):=zhd fun u hu=>(yi HTB.out hu).2
 have hK6:=hg.K6
 have HFIN:Hid (∀L,LabI s.tab ch s.K (s.K+1) 0 L→labs L=quoL s ch∧(∀x∈L,WF x)∧L.length=s.tab.length):=zhd fun L hL=>by
  have e:=hL.done
  refine ⟨by rw[e];rfl,?_,hL.len⟩
  rw[e];exact zdc ch s.K (by omega) HND.out HTB.out
 obtain ⟨qL,hqL⟩:∃l,l=quoL s ch:=⟨_,rfl⟩
 rw[←hqL]at HFIN ⊢
 obtain ⟨T,hT⟩:∃T,T=s.tab:=⟨_,rfl⟩
 obtain ⟨K,hK⟩:∃K,K=s.K:=⟨_,rfl⟩
 have HTL:Hid (T.length=s.tab.length):=zhd (by rw[hT])
 rw[←hT]at KA KF HQ HTC HTB HND HRN HFIN hm ⊢
 rw[←hK]at HRD HRN hK6 HFIN HTB
 rw[HRD.out]at KA KF ⊢
 have hmk:=run_make_row' 36 3 (.int .i64 0) 8 Tryz.underlying36 info3 rfl .i64 .i64 T.length (by omega) (by omega)
 have ex:=zg (zg (ze w (.cells #[.int .i64 s.p.n,.int .i64 s.p.ins,.int .i64 s.p.outs,.slice ca s.p.cs.length cc,.int .i64 s.p.an,.slice sa s.p.st.length sc,.int .i64 K,.int .i64 s.tn,.slice ta T.length tc,.slice xa s.ex.length xc] 35)) (.cells #[.slice a2 ch.length c2] 38)) (.cells (madeCells #[.int .i64 0] T.length) 3)
 have R0:=((zh w [.int .i64 s.p.n,.int .i64 s.p.ins,.int .i64 s.p.outs,.slice ca s.p.cs.length cc,.int .i64 s.p.an,.slice sa s.p.st.length sc,.int .i64 K,.int .i64 s.tn,.slice ta T.length tc,.slice xa s.ex.length xc] 35).alloc (.cells #[.slice a2 ch.length c2] 38)).alloc (.cells (madeCells #[.int .i64 0] T.length) 3)
 have R1:=(zh (w.alloc (.cells #[.int .i64 s.p.n,.int .i64 s.p.ins,.int .i64 s.p.outs,.slice ca s.p.cs.length cc,.int .i64 s.p.an,.slice sa s.p.st.length sc,.int .i64 K,.int .i64 s.tn,.slice ta T.length tc,.slice xa s.ex.length xc] 35)) [.slice a2 ch.length c2] 38).alloc (.cells (madeCells #[.int .i64 0] T.length) 3)
 have RL:=Row.made ((w.alloc (.cells #[.int .i64 s.p.n,.int .i64 s.p.ins,.int .i64 s.p.outs,.slice ca s.p.cs.length cc,.int .i64 s.p.an,.slice sa s.p.st.length sc,.int .i64 K,.int .i64 s.tn,.slice ta T.length tc,.slice xa s.ex.length xc] 35)).alloc (.cells #[.slice a2 ch.length c2] 38)) (.int .i64 0) T.length 3
 rw[show List.replicate T.length (Value.int .i64 0)=(List.replicate T.length (0:Int)).map (Value.int .i64) by simp]at RL
 simp only[World.size_alloc]at R1 RL
 have HZ0:=zhd (LabI.zero T ch K)
 clear hc hs ht hx tad hi hz hg h2 hl hqL hT hK HTL
 obtain ⟨B2,hB2⟩:∃B2,B2=w.heap.size+1+1:=⟨_,rfl⟩
 rw[←hB2]at RL
 have HB2:=zhd hB2
 have hB2w:w.heap.size≤B2:=by omega
 have hB20:some B2≠some w.heap.size:=by intro e;injection e;omega
 have hB21:some B2≠some (w.heap.size+1):=by intro e;injection e;omega
 clear hB2
 have t0:=R0.zc 0 rfl
 have t1:=R0.zc 1 rfl
 have t2:=R0.zc 2 rfl
 have t3:=R0.zc 3 rfl
 have t4:=R0.zc 4 rfl
 have t5:=R0.zc 5 rfl
 have t6:=R0.zc 6 rfl
 have t7:=R0.zc 7 rfl
 have t8:=R0.zc 8 rfl
 have t9:=R0.zc 9 rfl
 have l0:=R0.lt
 have r0:=R1.zc 0 rfl
 have l1:=R1.lt
 go_enter Tryz.func35,Tryz.ntmps35
 go_wp2
 rw[←HB2.out]
 clear hmk t0 t1 t2 t3 t4 t5 t6 t7 t8 t9 l0 r0 l1
 have HDK:(K+1=0∧Value.int .i64 (K:Int)=.int .i64 (-1))∨∃k,K+1=k+1∧Value.int .i64 (K:Int)=.int .i64 (k:Int):=.inr ⟨K,rfl,rfl⟩
 go_loopw [7,8,9] (fun kv _ _ wr=>∃(j:Nat) (L:List Int),j≤K+1∧((j=0∧kv=.int .i64 (-1))∨∃k:Nat,j=k+1∧kv=.int .i64 k)∧Hid (LabI T ch K (K+1 - j) 0 L)∧Below w.heap.size w wr∧Row wr w.heap.size 35 [.int .i64 s.p.n,.int .i64 s.p.ins,.int .i64 s.p.outs,.slice ca s.p.cs.length cc,.int .i64 s.p.an,.slice sa s.p.st.length sc,.int .i64 K,.int .i64 s.tn,.slice ta T.length tc,.slice xa s.ex.length xc]∧Row wr (w.heap.size+1) 38 [.slice a2 ch.length c2]∧Row wr B2 3 ((L).map (Value.int .i64))) (fun kv _ _ _=>(intOf kv+1).toNat)
 case atStart=>exact ⟨K+1,_,Nat.le_refl _,HDK,zhd (by rw[Nat.sub_self];exact HZ0.out),ex,R0,R1,RL⟩
 case round=>
  clear ex R0 R1 RL HZ0 HDK
  obtain ⟨j,L,hj,hjk,HL,ex,R0,R1,RL⟩:=hrel
  rcases hjk with ⟨rfl,rfl⟩ | ⟨k,rfl,rfl⟩
  ·have HFI:=zhd (HFIN.out L HL.out)
   have HI:Hid (Ints (fun b=>b=B2) wr (.slice (some ⟨B2,0,none⟩) T.length T.length) L):=zhd (by
    have:=RL.ints (by rw[HFI.out.2.2];unfold maxLen;omega) HFI.out.2.1
    rw[HFI.out.2.2]at this;exact this)
   have KLB:=zhd (Yw HI.out (by rw[HFI.out.2.2];omega))
   rw[HFI.out.1]at KLB
   have HEX:=zhd ex
   clear ex R0 R1 RL HL hj
   go_wp2_with fail
   refine KLB.out.mono ?_
   rintro _ w1 ⟨_,rfl,hb,hi⟩
   have hsz:=HEX.out.size
   have HI2:=zhd (hi.mono (S':=fun b=>w.heap.size≤b) fun b hb=>by omega)
   have ex1:=zb HEX.out hb
   clear hb hi KLB HI
   go_wp2
   go_ret
   exact .mk ex1 HI2.out
  obtain ⟨m,hm'⟩:∃m,m=K - k:=⟨_,rfl⟩
  have hmk:k+m=K:=by omega
  rw[show K+1 - (k+1)=m by omega]at HL
  have HM1:Hid (K+1 - k=m+1):=zhd (by omega)
  have HDN:=zhd (zbX k)
  clear hm'
  go_wp2
  go_loopw [8,9] (fun vv _ wr=>∃(v:Nat) (L:List Int),v≤T.length∧vv=.int .i64 v∧Hid (LabI T ch K m v L)∧Below w.heap.size w wr∧Row wr w.heap.size 35 [.int .i64 s.p.n,.int .i64 s.p.ins,.int .i64 s.p.outs,.slice ca s.p.cs.length cc,.int .i64 s.p.an,.slice sa s.p.st.length sc,.int .i64 K,.int .i64 s.tn,.slice ta T.length tc,.slice xa s.ex.length xc]∧Row wr (w.heap.size+1) 38 [.slice a2 ch.length c2]∧Row wr B2 3 ((L).map (Value.int .i64))) (fun vv _ _=>T.length - (intOf vv).toNat)
  case atStart=>exact ⟨0,L,Nat.zero_le _,rfl,HL,ex,R0,R1,RL⟩
  case round=>
   clear ex R0 R1 RL HL L
   obtain ⟨v,L,hv,rfl,HL,ex,R0,R1,RL⟩:=hrel
   by_cases hlt:v<T.length
   case neg=>
    obtain rfl:v=T.length:=by omega
    have HL2:=zhd HL.out.start
    go_wp2
    go_roundw
    case rel=>exact ⟨k,L,by omega,HDN.out,by rw[HM1.out];exact HL2,ex,R0,R1,RL⟩
    case measure=>simp[intOf]
   have vq:=HQ.out v hlt
   have vc:=zj (HTC.out v hlt) ex
   have bv:=World.block_lt_of_cell? _ _ vc
   have HRV:=zhd (HRN.out v hlt)
   have HSK:=zhd (fun h=>HL.out.skip (j:=v) h)
   obtain ⟨rv,hrv⟩:∃r,r=rndT T v:=⟨_,rfl⟩
   rw[←hrv]at vc HRV HSK
   have HRE:=zhd hrv
   have t0:=R0.zc 0 rfl
   have t1:=R0.zc 1 rfl
   have t2:=R0.zc 2 rfl
   have t3:=R0.zc 3 rfl
   have t4:=R0.zc 4 rfl
   have t5:=R0.zc 5 rfl
   have t6:=R0.zc 6 rfl
   have t7:=R0.zc 7 rfl
   have t8:=R0.zc 8 rfl
   have t9:=R0.zc 9 rfl
   have l0:=R0.lt
   have r0:=R1.zc 0 rfl
   have l1:=R1.lt
   clear hrv
   by_cases hrk:rv=k
   case neg=>
    have d1:((rv:Int) !=(k:Int))=true:=by rw[bne_iff_ne];omega
    have HL2:=zhd (HSK.out (by omega))
    clear hrk
    go_wp2
    go_roundw
    case rel=>exact ⟨v+1,L,by omega,by go_num,HL2,ex,R0,R1,RL⟩
    case measure=>simp[intOf];omega
   have d1:((rv:Int) !=(k:Int))=false:=by rw[hrk];simp
   have HVK:Hid (rndT T v+m=K):=zhd (by rw[←HRE.out];omega)
   have hLl:=HL.out.len
   have cv:=rowInt RL (k:=v) (by omega)
   have fv:=RL.free v
   have lv:=RL.lt
   have R02:=R0.grown (zi wr B2 v (.int .i64 v)) hB20
   have R12:=R1.grown (zi wr B2 v (.int .i64 v)) hB21
   have RL2:=rowSet RL v v
   have ex2:=ex.setCell (p:=⟨B2,v,none⟩) hB2w (.int .i64 v)
   have HDS:Hid (DnI T ch (quoF T ch K m) v v v):=zhd (DnI.start HND.out _ _ _)
   have HDV:=zhd (zbX v)
   have qv:=Zw B2 T.length T.length hlt
   have HLN:=zhd hLl
   clear hrk hLl
   clear ex R0 R1 RL
   go_wp2
   obtain ⟨wv,hwv⟩:∃wv,wv=wr.setCell ⟨B2,v,none⟩ (.int .i64 v):=⟨_,rfl⟩
   rw[←hwv]at R02 R12 RL2 ex2 ⊢
   clear hwv cv fv lv bv vc vq d1 t0 t1 t2 t3 t4 t5 t6 t7 t8 t9 l0 r0 l1 wr
   go_loopw [9] (fun xv wi=>∃(i x:Nat),i≤v∧((i=0∧xv=.int .i64 (-1))∨∃z:Nat,i=z+1∧xv=.int .i64 z)∧Hid (DnI T ch (quoF T ch K m) v i x)∧Below w.heap.size w wi∧Row wi w.heap.size 35 [.int .i64 s.p.n,.int .i64 s.p.ins,.int .i64 s.p.outs,.slice ca s.p.cs.length cc,.int .i64 s.p.an,.slice sa s.p.st.length sc,.int .i64 K,.int .i64 s.tn,.slice ta T.length tc,.slice xa s.ex.length xc]∧Row wi (w.heap.size+1) 38 [.slice a2 ch.length c2]∧Row wi B2 3 ((L.set v (x:Int)).map (Value.int .i64))) (fun xv _=>(intOf xv+1).toNat)
   case atStart=>exact ⟨v,v,Nat.le_refl _,HDV.out,HDS,ex2,R02,R12,RL2⟩
   case round=>
    clear ex2 R02 R12 RL2 HDS
    obtain ⟨i,x,hiv,hix,HD,ex,R0,R1,RL⟩:=hrel
    rcases hix with ⟨rfl,rfl⟩ | ⟨z,rfl,rfl⟩
    ·have HL2:Hid (LabI T ch K m (v+1) (L.set v (x:Int))):=zhd (by
      rw[HD.out.done HND.out];exact HL.out.step HVK.out hlt)
     go_wp2
     go_roundw
     case rel=>exact ⟨v+1,_,by omega,by go_num,HL2,ex,R0,R1,RL⟩
     case measure=>simp[intOf];omega
    have hzt:z<T.length:=by omega
    have HLA:=zhd (HL.out.a.set hlt HVK.out (x:Int))
    have hlen2:(L.set v (x:Int)).length=T.length:=HLA.out.len
    have HS:Hid (samB T ch (quoF T ch K m) v z=(alkB T ch v z&&(folB T (nth (L.set v (x:Int))) v z&&folB T (nth (L.set v (x:Int))) z v))):=zhd (by rw[←zf8,zeI HTB.out HLA.out HVK.out hlt hzt])
    have HY:=zhd (fun h=>HD.out.yes h)
    have HN:=zhd (fun h=>HD.out.no h)
    have KA2:=zhd (KA.out v z hlt hzt)
    have KF1:=zhd (fun S3 vl=>KF.out S3 vl (L.set v (x:Int)) v z hlen2 hlt hzt)
    have KF2:=zhd (fun S3 vl=>KF.out S3 vl (L.set v (x:Int)) z v hlen2 hzt hlt)
    have HWF:Hid (∀y∈L.set v (x:Int),WF y):=zhd fun y hy=>by
     rcases List.mem_or_eq_of_mem_set hy with h1 | h1
     ·obtain ⟨i,hi,rfl⟩:=List.getElem_of_mem h1
      have h3:=HL.out.at' i (by rw[←HL.out.len];exact hi)
      rw[yh hi]at h3
      rw[h3]
      exact zfJ HTB.out HND.out (by omega) (by rw[←HL.out.len];exact hi)
     ·rw[h1];exact WF.small (by have:=HD.out.le;omega)
    have HMX:Hid ((L.set v (x:Int)).length≤maxLen):=zhd (by rw[hlen2];unfold maxLen;omega)
    obtain ⟨a,ha⟩:∃a,a=alkB T ch v z:=⟨_,rfl⟩
    obtain ⟨f1,hf1⟩:∃f,f=folB T (nth (L.set v (x:Int))) v z:=⟨_,rfl⟩
    obtain ⟨f2,hf2⟩:∃f,f=folB T (nth (L.set v (x:Int))) z v:=⟨_,rfl⟩
    rw[←ha]at KA2 HS
    rw[←hf1]at KF1 HS
    rw[←hf2]at KF2 HS
    obtain ⟨sv,hsv⟩:∃b,b=samB T ch (quoF T ch K m) v z:=⟨_,rfl⟩
    rw[←hsv]at HS HY HN
    have HDZ:=zhd (zbX z)
    have HLX:=zhd hlen2
    have HSS:Hid ((L.set v (x:Int)).set v (z:Int)=L.set v (z:Int)):=zhd (List.set_set ..)
    obtain ⟨M,hM⟩:∃M,M=L.set v (x:Int):=⟨_,rfl⟩
    rw[←hM]at RL KF1 KF2 HWF HMX HLX HSS
    have HXL:Hid (M=L.set v (x:Int)):=zhd hM
    clear hM ha hf1 hf2 hsv hlen2 HLA
    have t0:=R0.zc 0 rfl
    have t1:=R0.zc 1 rfl
    have t2:=R0.zc 2 rfl
    have t3:=R0.zc 3 rfl
    have t4:=R0.zc 4 rfl
    have t5:=R0.zc 5 rfl
    have t6:=R0.zc 6 rfl
    have t7:=R0.zc 7 rfl
    have t8:=R0.zc 8 rfl
    have t9:=R0.zc 9 rfl
    have l0:=R0.lt
    have r0:=R1.zc 0 rfl
    have l1:=R1.lt
    go_wp2_with fail
    refine (KA2.out _ ex).mono ?_
    rintro _ w1 ⟨_,rfl,hb,rfl⟩
    replace R0:=R0.ext hb
    replace R1:=R1.ext hb
    replace RL:=RL.ext hb
    replace ex:=zb ex hb
    clear hb KA2 t0 t1 t2 t3 t4 t5 t6 t7 t8 t9 l0 r0 l1
    cases a with
    | false=>
     have HD2:=zhd (HN.out (HS.out.trans rfl))
     rw[HXL.out]at RL
     go_wp2
     go_roundw
     case rel=>exact ⟨z,x,by omega,HDZ.out,HD2,ex,R0,R1,RL⟩
     case measure=>simp[intOf]
    | true=>
    have HI1:Hid (Ints (fun b=>b=B2) w1 (.slice (some ⟨B2,0,none⟩) T.length T.length) M):=zhd (by
     have:=RL.ints HMX.out HWF.out
     rw[HLX.out]at this;exact this)
    have t0:=R0.zc 0 rfl
    have t1:=R0.zc 1 rfl
    have t2:=R0.zc 2 rfl
    have t3:=R0.zc 3 rfl
    have t4:=R0.zc 4 rfl
    have t5:=R0.zc 5 rfl
    have t6:=R0.zc 6 rfl
    have t7:=R0.zc 7 rfl
    have t8:=R0.zc 8 rfl
    have t9:=R0.zc 9 rfl
    have l0:=R0.lt
    have r0:=R1.zc 0 rfl
    have l1:=R1.lt
    go_wp2_with fail
    refine (KF1.out _ _ _ ex HI1.out).mono ?_
    rintro _ w2 ⟨_,rfl,hb,rfl⟩
    replace R0:=R0.ext hb
    replace R1:=R1.ext hb
    replace RL:=RL.ext hb
    replace ex:=zb ex hb
    replace HI1:=zhd (HI1.out.ext hb)
    clear hb KF1 t0 t1 t2 t3 t4 t5 t6 t7 t8 t9 l0 r0 l1
    cases f1 with
    | false=>
     have HD2:=zhd (HN.out (HS.out.trans rfl))
     rw[HXL.out]at RL
     go_wp2
     go_roundw
     case rel=>exact ⟨z,x,by omega,HDZ.out,HD2,ex,R0,R1,RL⟩
     case measure=>simp[intOf]
    | true=>
    have t0:=R0.zc 0 rfl
    have t1:=R0.zc 1 rfl
    have t2:=R0.zc 2 rfl
    have t3:=R0.zc 3 rfl
    have t4:=R0.zc 4 rfl
    have t5:=R0.zc 5 rfl
    have t6:=R0.zc 6 rfl
    have t7:=R0.zc 7 rfl
    have t8:=R0.zc 8 rfl
    have t9:=R0.zc 9 rfl
    have l0:=R0.lt
    have r0:=R1.zc 0 rfl
    have l1:=R1.lt
    go_wp2_with fail
    refine (KF2.out _ _ _ ex HI1.out).mono ?_
    rintro _ w3 ⟨_,rfl,hb,rfl⟩
    replace R0:=R0.ext hb
    replace R1:=R1.ext hb
    replace RL:=RL.ext hb
    replace ex:=zb ex hb
    clear hb KF2 t0 t1 t2 t3 t4 t5 t6 t7 t8 t9 l0 r0 l1 HI1
    cases f2 with
    | false=>
     have HD2:=zhd (HN.out (HS.out.trans rfl))
     rw[HXL.out]at RL
     go_wp2
     go_roundw
     case rel=>exact ⟨z,x,by omega,HDZ.out,HD2,ex,R0,R1,RL⟩
     case measure=>simp[intOf]
    | true=>
     have HD2:=zhd (HY.out (HS.out.trans rfl))
     have cv:=rowInt RL (k:=v) (by rw[HLX.out];exact hlt)
     have fv:=RL.free v
     have lv:=RL.lt
     have R02:=R0.grown (zi w3 B2 v (.int .i64 z)) hB20
     have R12:=R1.grown (zi w3 B2 v (.int .i64 z)) hB21
     have RL2:=rowSet RL v z
     rw[HSS.out]at RL2
     have ex2:=ex.setCell (p:=⟨B2,v,none⟩) hB2w (.int .i64 z)
     clear R0 R1 RL ex
     go_wp2
     go_roundw
     case rel=>exact ⟨z,z,by omega,HDZ.out,HD2,ex2,R02,R12,RL2⟩
     case measure=>simp[intOf]
def ClaR (B:Nat) (s:SysF) (ch:List Int) (w':World) (r:Value):Prop:=(ruleE s ch=0∧∃u,r=.tuple #[u,.int .i64 0]∧Ints (fun b=>B≤b) w' u (quoL s ch))∨(ruleE s ch≠0∧r=.tuple #[.slice none 0 0,.int .i64 (ruleE s ch)])
def sizA (s:SysF) (ch:List Int):Int:=if ruleE s ch=0 then numS (quoL s ch) else 0
theorem tup2 {a a' b b':Int} (h:a=a') (h':b=b'):Value.tuple #[.int .i64 a,.int .i64 b]=Value.tuple #[.int .i64 a',.int .i64 b']:=by rw[h,h']
theorem zY {S:Nat→Prop} {w:World} {v:Value} {s:SysF} {ch:List Int} (h:SysV S w v s) (h0:ruleE s ch=0):GoodS s s.N s.K∧ch.length=s.tab.length:=⟨QO (zbG h0).1 h.moves8,(zbG h0).2.1⟩
theorem XX {s:SysF} {ch:List Int} (hm:s.tab.length≤65536):Good (quoL s ch):=zej (by rw[length_keys];exact hm)
theorem zcq {S S2:Nat→Prop} {w:World} {v vch:Value} {s:SysF} {ch:List Int} (h:SysV S w v s) (hf:SmallP s.p) (h2:Ints S2 w vch ch) (hm:s.tab.length≤60000):
  Calls Tryz.prog 14 #[v,.agg #[vch]] w (Post w (ClaR w.heap.size s ch)):=by
 have KC:Hid (∀W,Below w.heap.size w W→Calls Tryz.prog 34 #[v,.agg #[vch]] W (Post W fun _ r=>r=.int .i64 (ruleE s ch))):=zhd fun W hW=>ZT (h.ext hW) hf (h2.ext hW)
 have KP:Hid (ruleE s ch=0→∀W,Below w.heap.size w W→Calls Tryz.prog 35 #[v,.agg #[vch]] W (Post W fun w' r=>Ints (fun b=>W.heap.size≤b) w' r (quoL s ch))):=zhd fun h0 W hW=>YW (h.ext hW) (zY h h0).1 (h2.ext hW) (zY h h0).2 hm
 have HO:Hid (∀w' u,ruleE s ch=0→Ints (fun b=>w.heap.size≤b) w' u (quoL s ch)→ClaR w.heap.size s ch w' (.tuple #[u,.int .i64 0])):=zhd fun w' u h0 hu=>.inl ⟨h0,u,rfl,hu⟩
 have HE:Hid (∀w',ruleE s ch≠0→ClaR w.heap.size s ch w' (.tuple #[.slice none 0 0,.int .i64 (ruleE s ch)])):=zhd fun w' h0=>.inr ⟨h0,rfl⟩
 obtain ⟨CR,hCR⟩:∃CR,CR=ClaR w.heap.size s ch:=⟨_,rfl⟩
 rw[←hCR]at HO HE ⊢
 obtain ⟨e,hee⟩:∃e,e=ruleE s ch:=⟨_,rfl⟩
 rw[←hee]at KC KP HO HE
 obtain ⟨vc,vs,vt,vx,rfl,hc,hs,ht,hx⟩:=h
 obtain ⟨ca,cc,rfl,_⟩:=hc.form
 obtain ⟨sa,sc,rfl,_⟩:=hs.form
 obtain ⟨ta,tc,rfl,_⟩:=ht.form
 obtain ⟨xa,xc,rfl,_⟩:=hx.form
 obtain ⟨a2,c2,rfl,_⟩:=h2.form
 have ex:=zg (ze w (.cells #[.int .i64 s.p.n,.int .i64 s.p.ins,.int .i64 s.p.outs,.slice ca s.p.cs.length cc,.int .i64 s.p.an,.slice sa s.p.st.length sc,.int .i64 s.p.rounds,.int .i64 s.tn,.slice ta s.tab.length tc,.slice xa s.ex.length xc] 35)) (.cells #[.slice a2 ch.length c2] 38)
 have R0:=(zh w [.int .i64 s.p.n,.int .i64 s.p.ins,.int .i64 s.p.outs,.slice ca s.p.cs.length cc,.int .i64 s.p.an,.slice sa s.p.st.length sc,.int .i64 s.p.rounds,.int .i64 s.tn,.slice ta s.tab.length tc,.slice xa s.ex.length xc] 35).alloc (.cells #[.slice a2 ch.length c2] 38)
 have R1:=zh (w.alloc (.cells #[.int .i64 s.p.n,.int .i64 s.p.ins,.int .i64 s.p.outs,.slice ca s.p.cs.length cc,.int .i64 s.p.an,.slice sa s.p.st.length sc,.int .i64 s.p.rounds,.int .i64 s.tn,.slice ta s.tab.length tc,.slice xa s.ex.length xc] 35)) [.slice a2 ch.length c2] 38
 rw[World.size_alloc]at R1
 clear hc hs ht hx h2 hf hm hee hCR
 go_enter Tryz.func14,Tryz.ntmps14
 have t0:=R0.zc 0 rfl
 have t1:=R0.zc 1 rfl
 have t2:=R0.zc 2 rfl
 have t3:=R0.zc 3 rfl
 have t4:=R0.zc 4 rfl
 have t5:=R0.zc 5 rfl
 have t6:=R0.zc 6 rfl
 have t7:=R0.zc 7 rfl
 have t8:=R0.zc 8 rfl
 have t9:=R0.zc 9 rfl
 have l0:=R0.lt
 have r0:=R1.zc 0 rfl
 have l1:=R1.lt
 go_wp2_with fail
 refine (KC.out _ ex).mono ?_
 rintro _ w1 ⟨_,rfl,hb,rfl⟩
 replace R0:=R0.ext hb
 replace R1:=R1.ext hb
 replace ex:=zb ex hb
 clear hb KC t0 t1 t2 t3 t4 t5 t6 t7 t8 t9 l0 r0 l1
 by_cases h0:e=0
 case neg=>
  have RE:=zhd (HE.out w1 h0)
  have d0:(e !=0)=true:=by simp[h0]
  clear h0 HO HE
  go_wp2
  go_ret2
  exact .mk ex RE.out
 have KP1:=zhd (KP.out h0)
 have HO1:=zhd (fun w' u=>HO.out w' u h0)
 have d0:(e !=0)=false:=by simp[h0]
 clear h0 HO HE KP
 have t0:=R0.zc 0 rfl
 have t1:=R0.zc 1 rfl
 have t2:=R0.zc 2 rfl
 have t3:=R0.zc 3 rfl
 have t4:=R0.zc 4 rfl
 have t5:=R0.zc 5 rfl
 have t6:=R0.zc 6 rfl
 have t7:=R0.zc 7 rfl
 have t8:=R0.zc 8 rfl
 have t9:=R0.zc 9 rfl
 have l0:=R0.lt
 have r0:=R1.zc 0 rfl
 have l1:=R1.lt
 go_wp2_with fail
 refine (KP1.out _ ex).mono ?_
 rintro _ w2 ⟨u,rfl,hb,hi⟩
 have hsz:=ex.size
 have RR:=zhd (HO1.out w2 u (hi.mono fun b hb=>by omega))
 replace ex:=zb ex hb
 clear hb hi KP1 HO1 t0 t1 t2 t3 t4 t5 t6 t7 t8 t9 l0 r0 l1
 go_wp2
 go_ret2
 exact .mk ex RR.out
theorem zcJ {S S2:Nat→Prop} {w:World} {v vch:Value} {s:SysF} {ch:List Int} (h:SysV S w v s) (hf:SmallP s.p) (h2:Ints S2 w vch ch) (hm:s.tab.length≤60000):
  Calls Tryz.prog 16 #[v,.agg #[vch]] w (Post w fun _ r=>r=.tuple #[.int .i64 (sizA s ch),.int .i64 (ruleE s ch)]):=by
 have KC:Hid (∀W,Below w.heap.size w W→Calls Tryz.prog 34 #[v,.agg #[vch]] W (Post W fun _ r=>r=.int .i64 (ruleE s ch))):=zhd fun W hW=>ZT (h.ext hW) hf (h2.ext hW)
 have KP:Hid (ruleE s ch=0→∀W,Below w.heap.size w W→Calls Tryz.prog 35 #[v,.agg #[vch]] W (Post W fun w' r=>Ints (fun b=>W.heap.size≤b) w' r (quoL s ch))):=zhd fun h0 W hW=>YW (h.ext hW) (zY h h0).1 (h2.ext hW) (zY h h0).2 hm
 have KN:Hid (∀S3 W u,Ints S3 W u (quoL s ch)→Calls Tryz.prog 37 #[u] W (Post W fun _ r=>r=.int .i64 (numS (quoL s ch)))):=zhd fun S3 W u hu=>YX hu (XX (by omega))
 have HS:Hid ((ruleE s ch=0→sizA s ch=numS (quoL s ch))∧(ruleE s ch≠0→sizA s ch=0)):=zhd ⟨fun h=>by unfold sizA;rw[if_pos h],fun h=>by unfold sizA;rw[if_neg h]⟩
 obtain ⟨z,hzz⟩:∃z,z=sizA s ch:=⟨_,rfl⟩
 rw[←hzz]at HS ⊢
 obtain ⟨m,hmm⟩:∃m,m=numS (quoL s ch):=⟨_,rfl⟩
 rw[←hmm]at HS KN
 obtain ⟨l,hll⟩:∃l,l=quoL s ch:=⟨_,rfl⟩
 rw[←hll]at KN KP
 obtain ⟨e,hee⟩:∃e,e=ruleE s ch:=⟨_,rfl⟩
 rw[←hee]at KC KP HS ⊢
 obtain ⟨vc,vs,vt,vx,rfl,hc,hs,ht,hx⟩:=h
 obtain ⟨ca,cc,rfl,_⟩:=hc.form
 obtain ⟨sa,sc,rfl,_⟩:=hs.form
 obtain ⟨ta,tc,rfl,_⟩:=ht.form
 obtain ⟨xa,xc,rfl,_⟩:=hx.form
 obtain ⟨a2,c2,rfl,_⟩:=h2.form
 have ex:=zg (ze w (.cells #[.int .i64 s.p.n,.int .i64 s.p.ins,.int .i64 s.p.outs,.slice ca s.p.cs.length cc,.int .i64 s.p.an,.slice sa s.p.st.length sc,.int .i64 s.p.rounds,.int .i64 s.tn,.slice ta s.tab.length tc,.slice xa s.ex.length xc] 35)) (.cells #[.slice a2 ch.length c2] 38)
 have R0:=(zh w [.int .i64 s.p.n,.int .i64 s.p.ins,.int .i64 s.p.outs,.slice ca s.p.cs.length cc,.int .i64 s.p.an,.slice sa s.p.st.length sc,.int .i64 s.p.rounds,.int .i64 s.tn,.slice ta s.tab.length tc,.slice xa s.ex.length xc] 35).alloc (.cells #[.slice a2 ch.length c2] 38)
 have R1:=zh (w.alloc (.cells #[.int .i64 s.p.n,.int .i64 s.p.ins,.int .i64 s.p.outs,.slice ca s.p.cs.length cc,.int .i64 s.p.an,.slice sa s.p.st.length sc,.int .i64 s.p.rounds,.int .i64 s.tn,.slice ta s.tab.length tc,.slice xa s.ex.length xc] 35)) [.slice a2 ch.length c2] 38
 rw[World.size_alloc]at R1
 clear hc hs ht hx h2 hf hm hee hzz hmm hll
 go_enter Tryz.func16,Tryz.ntmps16
 have t0:=R0.zc 0 rfl
 have t1:=R0.zc 1 rfl
 have t2:=R0.zc 2 rfl
 have t3:=R0.zc 3 rfl
 have t4:=R0.zc 4 rfl
 have t5:=R0.zc 5 rfl
 have t6:=R0.zc 6 rfl
 have t7:=R0.zc 7 rfl
 have t8:=R0.zc 8 rfl
 have t9:=R0.zc 9 rfl
 have l0:=R0.lt
 have r0:=R1.zc 0 rfl
 have l1:=R1.lt
 go_wp2_with fail
 refine (KC.out _ ex).mono ?_
 rintro _ w1 ⟨_,rfl,hb,rfl⟩
 replace R0:=R0.ext hb
 replace R1:=R1.ext hb
 replace ex:=zb ex hb
 clear hb KC t0 t1 t2 t3 t4 t5 t6 t7 t8 t9 l0 r0 l1
 by_cases h0:e=0
 case neg=>
  have RE:=zhd (HS.out.2 h0)
  have d0:(e !=0)=true:=by simp[h0]
  clear h0 HS
  go_wp2
  go_ret2
  exact .mk ex (tup2 RE.out.symm rfl)
 have KP1:=zhd (KP.out h0)
 have RE:=zhd (HS.out.1 h0)
 have HE0:=zhd h0
 have d0:(e !=0)=false:=by simp[h0]
 clear h0 HS KP
 have t0:=R0.zc 0 rfl
 have t1:=R0.zc 1 rfl
 have t2:=R0.zc 2 rfl
 have t3:=R0.zc 3 rfl
 have t4:=R0.zc 4 rfl
 have t5:=R0.zc 5 rfl
 have t6:=R0.zc 6 rfl
 have t7:=R0.zc 7 rfl
 have t8:=R0.zc 8 rfl
 have t9:=R0.zc 9 rfl
 have l0:=R0.lt
 have r0:=R1.zc 0 rfl
 have l1:=R1.lt
 go_wp2_with fail
 refine (KP1.out _ ex).mono ?_
 rintro _ w2 ⟨u,rfl,hb,hi⟩
 have KN2:=zhd (KN.out _ _ _ hi)
 replace ex:=zb ex hb
 clear hb hi KP1 KN t0 t1 t2 t3 t4 t5 t6 t7 t8 t9 l0 r0 l1
 go_wp2_with fail
 refine KN2.out.mono ?_
 rintro _ w3 ⟨_,rfl,hb,rfl⟩
 replace ex:=zb ex hb
 clear hb KN2
 go_wp2
 go_ret2
 exact .mk ex (tup2 RE.out.symm HE0.out.symm)
theorem zo {P:Program} {Q:Exit→Act→World→Prop} {md:Region.Mode} {S:World→Prop} {X:Nat→Bool} {l:List Oper} (i:Nat) {oi:Oper} {fuel:Nat} {listed:Array Bool} {a:Act} {w:World} (hi:l[i]? =some oi)
  (hf:(Region.noSelect l.toArray&&(Region.free md l.toArray listed i&&((Region.ready md l.toArray listed).contains i&&waitFor md l.toArray X i)))=true)
  (hQ:∀c a w,Q (.panic c) (a.put oi.dst undef) w→Q (.panic c) a w) (hw:Region.wanted oi (yielded l.toArray a.tmps)=false) (hS:S w)
  (h:AnyE P md l.toArray Q S X fuel (listed.setIfInBounds i true) (a.put oi.dst undef) w):AnyE P md l.toArray Q S X (fuel+1) listed a w:=by
 simp only[Bool.and_eq_true]at hf
 exact Qp (by simpa using hi) hf.1 (by simp only[Bool.and_eq_true];exact hf.2) hQ (.inr ⟨hw,rfl⟩) hS h
def fitP (T:List (List Int)) (ch cl:List Int) (v w:Nat):Prop:=v≠w→nth cl v=nth cl w→alkB T ch v w=true∧folB T (nth cl) v w=true
def fitB (T:List (List Int)) (ch cl:List Int):Bool:=(List.range T.length).all fun v=>(List.range T.length).all fun w=>decide (v=w)||(!decide (nth cl v=nth cl w)||(alkB T ch v w&&folB T (nth cl) v w))
theorem zeK {T:List (List Int)} {ch cl:List Int}:fitB T ch cl=true↔∀v w,v<T.length→w<T.length→fitP T ch cl v w:=by
 unfold fitB fitP
 simp only[List.all_eq_true,List.mem_range,Bool.or_eq_true,Bool.and_eq_true,Bool.not_eq_true',decide_eq_true_iff,decide_eq_false_iff_not]
 constructor
 ·intro h v w hv hw hne hc
  rcases h v hv w hw with h1 | h1 | h1
  ·exact absurd h1 hne
  ·exact absurd hc h1
  ·exact h1
 ·intro h v hv w hw
  by_cases e:v=w
  ·exact .inl e
  ·by_cases hc:nth cl v=nth cl w
   ·exact .inr (.inr (h v w hv hw e hc))
   ·exact .inr (.inl hc)
theorem zb0 {T:List (List Int)} {ch cl:List Int}:fitB T ch cl=true↔FitP T ch cl:=by
 rw[zeK]
 constructor
 ·intro h v w hv hw hne hc
  obtain ⟨h1,h2⟩:=h v w hv hw hne hc
  obtain ⟨⟨a,b⟩,c⟩:=zd8.1 h1
  exact ⟨⟨a,b,c⟩,h2⟩
 ·intro h v w hv hw hne hc
  obtain ⟨⟨a,b,c⟩,d⟩:=h v w hv hw hne hc
  exact ⟨zd8.2 ⟨⟨a,b⟩,c⟩,d⟩
def FitTo (T:List (List Int)) (ch cl:List Int) (v w:Nat):Prop:=(∀i j,i<v→j<T.length→fitP T ch cl i j)∧∀j,j<w→fitP T ch cl v j
theorem FitTo.next {T:List (List Int)} {ch cl:List Int} {v w:Nat} (h:FitTo T ch cl v w) (hp:fitP T ch cl v w):FitTo T ch cl v (w+1):=⟨h.1,fun j hj=>by
 by_cases e:j=w
 ·subst e;exact hp
 ·exact h.2 j (by omega)⟩
theorem FitTo.row {T:List (List Int)} {ch cl:List Int} {v:Nat} (h:FitTo T ch cl v T.length):FitTo T ch cl (v+1) 0:=⟨fun i j hi hj=>by
 by_cases e:i=v
 ·subst e;exact h.2 j hj
 ·exact h.1 i j (by omega) hj,fun j hj=>by omega⟩
theorem FitTo.done {T:List (List Int)} {ch cl:List Int} (h:FitTo T ch cl T.length 0):fitB T ch cl=true:=zeK.2 h.1
end Go.Proofs.YtfjlhjkjjbiliaaGreat
