/- Part of the proof that the laws answer true for every input. -/
import Derived.Test.YtfjlhjkjjbiliaaGreatPXa11
import Derived.Test.YtfjlhjkjjbiliaaGreatPXa06
set_option linter.unusedSimpArgs false
set_option linter.unnecessarySimpa false
set_option linter.unusedVariables false
set_option maxRecDepth 100000
set_option maxHeartbeats 40000000
namespace Go.Proofs.YtfjlhjkjjbiliaaGreat
open Go.RowKit Go.Shelf
attribute [local go_sem ↓] Go.wp_at_zero Go.wp_at_succ
attribute [local go_sem] Oper.semAt_some
def rowE (n:Int) (ns:Nat) (l:List (List Int)):Int:=if l.length=0 then 19 else firstE (moveE n ns l) l.length
theorem Qg (n:Int) (st:Moves) (s:Nat):stateE n st s=rowE n st.length (nthM st s):=rfl
theorem YU {S S':Nat→Prop} {w:World} {vs vl:Value} {st:Moves} {l:List (List Int)} (n:Int) (hs:Sl (kSl (kFlat 8)) S' w vs st) (hv:Sl (kFlat 8) S w vl l):
  Calls Tryz.prog 133 #[.agg #[.int .i64 n,vs],vl] w (Post w fun _ r=>r=.int .i64 (rowE n st.length l)):=by
 have HMR:=zhd fun i=>moveR n st.length l i
 have HRE:Hid (l.length=0→rowE n st.length l=19):=zhd fun h=>by unfold rowE;rw[if_pos h]
 have HRS:Hid (l.length≠0→∀i x,Zeros (moveE n st.length l) i→moveE n st.length l i=x→x≠0→i<l.length→rowE n st.length l=x):=zhd fun h i x hz hx h0 hi=>by unfold rowE;rw[if_neg h];exact hz.stop hx h0 hi
 have HRF:Hid (l.length≠0→Zeros (moveE n st.length l) l.length→rowE n st.length l=0):=zhd fun h hz=>by unfold rowE;rw[if_neg h];exact hz.done (Nat.le_refl _)
 obtain ⟨r,hr⟩:∃r,r=rowE n st.length l:=⟨_,rfl⟩
 rw[←hr]at HRE HRS HRF ⊢
 obtain ⟨sa,sc,rfl,_⟩:=hs.form
 obtain ⟨a,cap,rfl,ad,lo,lm⟩:=hv.form
 unfold maxLen at lm
 have HV:=zhd hv
 have HAD:=zhd ad
 have Q:=hv.idxM
 have ex:=ze w (.cells #[.int .i64 n,.slice sa st.length sc] 27)
 have RA:Row (w.alloc (.cells #[.int .i64 n,.slice sa st.length sc] 27)) w.heap.size 27 [.int .i64 n,.slice sa st.length sc]:=zh w [_,_] _
 clear hr hs hv ad
 by_cases h0:l.length=0
 ·have RR:=zhd (HRE.out h0)
  have d0:((l.length:Int)==0)=true:=by simp[h0]
  clear h0
  go_enter Tryz.func133,Tryz.ntmps133
  go_wp2
  go_ret
  exact .mk ex (zk RR.out.symm)
 have d0:((l.length:Int)==0)=false:=by rw[beq_eq_false_iff_ne];omega
 have HL:=zhd h0
 clear h0
 go_enter Tryz.func133,Tryz.ntmps133
 go_wp2
 clear d0
 go_loopw [5,13] (fun _ i wr=>∃k:Nat,k≤l.length∧i=.int .i64 k∧Below w.heap.size w wr∧Row wr w.heap.size 27 [.int .i64 n,.slice sa st.length sc]∧Hid (Zeros (moveE n st.length l) k)) (fun _ i _=>l.length - (intOf i).toNat)
 case atStart=>exact ⟨0,Nat.zero_le _,rfl,ex,RA,zhd (.zero _)⟩
 case round=>
  clear ex RA
  obtain ⟨i,hik,rfl,hb,RA,HZ⟩:=hrel
  by_cases hi:i<l.length
  case neg=>
   obtain rfl:i=l.length:=by omega
   have RR:=zhd (HRF.out HL.out HZ.out)
   go_wp2
   go_ret
   exact .mk hb (zk RR.out.symm)
  have q:=Q.out i hi
  have hz:=(HV.out.ext hb).nums hi (by decide)
  have z0:=hz.1
  have z1:=hz.2 1 (by decide)
  have z2:=hz.2 2 (by decide)
  have z3:=hz.2 3 (by decide)
  have z4:=hz.2 4 (by decide)
  have z5:=hz.2 5 (by decide)
  have z6:=hz.2 6 (by decide)
  have z7:=hz.2 7 (by decide)
  have hbk:=Nat.lt_of_lt_of_le (zO HAD.out (by omega) (i * 8)) hb.size
  have tl:=RA.lt
  have HM:=zhd (HMR.out i)
  have HST:Hid (∀x,moveE n st.length l i=x→x≠0→r=x):=zhd fun x hx h0=>HRS.out HL.out i x HZ.out hx h0 hi
  obtain ⟨m,hm⟩:∃m,m=nthL l i:=⟨_,rfl⟩
  have HMM:=zhd hm
  rw[←hm]at z0 z1 z2 z3 z4 z5 z6 z7
  have KR:Hid (∀W,Calls Tryz.prog 148 #[.agg #[.int .i64 (nth m 0),.int .i64 (nth m 1),.int .i64 (nth m 2),.int .i64 (nth m 3),.int .i64 (nth m 4),.int .i64 (nth m 5),.int .i64 (nth m 6)]] W (Post W fun _ r=>r=.int .i64 (checkR m))):=zhd fun W=>Q4 W m
  obtain ⟨e,he⟩:∃e,e=checkR m:=⟨_,rfl⟩
  rw[←he]at KR
  have HE:Hid (checkR (nthL l i)=e):=zhd (by rw[he,hm])
  have exb:=ze wr (.cells #[.int .i64 (nth m 0),.int .i64 (nth m 1),.int .i64 (nth m 2),.int .i64 (nth m 3),.int .i64 (nth m 4),.int .i64 (nth m 5),.int .i64 (nth m 6),.int .i64 (nth m 7)] 118)
  have RM:Row (wr.alloc (.cells #[.int .i64 (nth m 0),.int .i64 (nth m 1),.int .i64 (nth m 2),.int .i64 (nth m 3),.int .i64 (nth m 4),.int .i64 (nth m 5),.int .i64 (nth m 6),.int .i64 (nth m 7)] 118)) wr.heap.size 118 [.int .i64 (nth m 0),.int .i64 (nth m 1),.int .i64 (nth m 2),.int .i64 (nth m 3),.int .i64 (nth m 4),.int .i64 (nth m 5),.int .i64 (nth m 6),.int .i64 (nth m 7)]:=zh wr [.int .i64 (nth m 0),.int .i64 (nth m 1),.int .i64 (nth m 2),.int .i64 (nth m 3),.int .i64 (nth m 4),.int .i64 (nth m 5),.int .i64 (nth m 6),.int .i64 (nth m 7)] _
  have RA1:=RA.ext exb
  have hb1:=zb hb exb
  obtain ⟨g,hg⟩:∃g,g=wr.heap.size:=⟨_,rfl⟩
  rw[←hg]at RM
  clear hm he hz
  go_wp2_with fail
  refine (KR.out _).mono ?_
  rintro _ w1 ⟨_,rfl,hbb,rfl⟩
  rw[←hg]
  have RA2:=RA1.ext hbb
  have RM2:=RM.ext hbb
  have hx1:=zb hb1 hbb
  clear z0 z1 z2 z3 z4 z5 z6 z7 q hbk tl KR RA RA1 RM exb hb1 hbb hg hb
  by_cases h0:e=0
  case neg=>
   have RR:=zhd (HST.out e (HM.out.bad e HE.out h0) h0)
   have d0:(e !=0)=true:=by simp[h0]
   clear h0
   go_wp2
   go_ret
   exact .mk hx1 (zk RR.out.symm)
  subst h0
  have t0:=RA2.zc 0 rfl
  have m0:=RM2.zc 0 rfl
  obtain ⟨mn,hmn⟩:∃x,x=nth m 0:=⟨_,rfl⟩
  rw[←hmn]at m0
  have HMN:Hid (nth (nthL l i) 0=mn):=zhd (by rw[hmn,HMM.out])
  clear hmn
  by_cases hn:mn=n
  case neg=>
   have RR:=zhd (HST.out 22 (HM.out.mis HE.out (by rw[HMN.out];exact hn)) (by decide))
   have d0:(mn !=n)=true:=by simp[hn]
   clear hn
   go_wp2
   go_ret
   exact .mk hx1 (zk RR.out.symm)
  have d0:(mn !=n)=false:=by simp[hn]
  have HN:Hid (nth (nthL l i) 0=n):=zhd (by rw[HMN.out,hn])
  clear hn
  by_cases hi0:0<i
  case pos=>
   obtain ⟨j,hj⟩:∃j,j=i - 1:=⟨_,rfl⟩
   have hjl:j<l.length:=by omega
   have q1:=Q.out j hjl
   have hz:=(HV.out.ext hx1).nums hjl (by decide)
   have z0:=hz.1
   have z1:=hz.2 1 (by decide)
   have z2:=hz.2 2 (by decide)
   have z3:=hz.2 3 (by decide)
   have z4:=hz.2 4 (by decide)
   have z5:=hz.2 5 (by decide)
   have z6:=hz.2 6 (by decide)
   obtain ⟨m',hm'⟩:∃m,m=nthL l j:=⟨_,rfl⟩
   rw[←hm']at z0 z1 z2 z3 z4 z5 z6
   have KO:Hid (∀W,Calls Tryz.prog 149 #[.agg #[.int .i64 (nth m' 0),.int .i64 (nth m' 1),.int .i64 (nth m' 2),.int .i64 (nth m' 3),.int .i64 (nth m' 4),.int .i64 (nth m' 5),.int .i64 (nth m' 6)],.agg #[.int .i64 (nth m 0),.int .i64 (nth m 1),.int .i64 (nth m 2),.int .i64 (nth m 3),.int .i64 (nth m 4),.int .i64 (nth m 5),.int .i64 (nth m 6)]] W (Post W fun _ r=>r=.int .i64 (lexN m' m 7))):=zhd fun W=>zbh W m' m
   obtain ⟨c,hc⟩:∃c,c=lexN m' m 7:=⟨_,rfl⟩
   rw[←hc]at KO
   have w1':IntKind.i64.wrap ((i:Int) - 1)=j:=by rw[IntKind.wrap_i64];omega
   have w2':decide ((0:Int)<(i:Int))=true:=decide_eq_true (by omega)
   have w3':decide (0<i)=true:=decide_eq_true hi0
   have w4':(0:Int)≤(j:Int):=by omega
   have w5':(j:Int)<(l.length:Int):=by omega
   have HUN:Hid (0≤c→r=14):=zhd fun h=>HST.out 14 (HM.out.un HE.out HN.out hi0 j hj (by rw[←hm',←HMM.out,←hc];exact h)) (by decide)
   have HFI:Hid (c<0→(0<i→∀j,j=i - 1→lexN (nthL l j) (nthL l i) 7<0)):=zhd fun h _ j2 hj2=>by
    subst hj2;rw[←hj,←hm',←HMM.out,←hc];exact h
   clear hc hj hz hm'
   go_wp2
   clear m0
   have m0:=RM2.zc 0 rfl
   have m1:=RM2.zc 1 rfl
   have m2:=RM2.zc 2 rfl
   have m3:=RM2.zc 3 rfl
   have m4:=RM2.zc 4 rfl
   have m5:=RM2.zc 5 rfl
   have m6:=RM2.zc 6 rfl
   go_still_tail 11,(by kernel_rfl)
   refine Yz fun w2 hq2=>?_
   clear q1 z0 z1 z2 z3 z4 z5 z6 m0 m1 m2 m3 m4 m5 m6 t0 w1' w4' w5'
   go_wp2_with fail
   refine (KO.out _).mono ?_
   rintro _ w3 ⟨_,rfl,hb3,rfl⟩
   have hq3:=zb hq2.ext hb3
   have hx3:=zb hx1 hq3
   have RA3:=RA2.ext hq3
   have RM3:=RM2.ext hq3
   clear KO hb3
   by_cases hc0:0≤c
   ·have RR:=zhd (HUN.out hc0)
    go_wp2
    go_ret
    exact .mk hx3 (zk RR.out.symm)
   have HF:=zhd (HFI.out (by omega))
   have t1:=RA3.zc 1 rfl
   have m7:=RM3.zc 7 rfl
   obtain ⟨to,hto⟩:∃x,x=nth m 7:=⟨_,rfl⟩
   rw[←hto]at m7
   have HTO:Hid (nth (nthL l i) 7=to):=zhd (by rw[hto,HMM.out])
   clear hto
   by_cases ht1:to<0
   ·have RR:=zhd (HST.out 2 (HM.out.to HE.out HN.out HF.out (.inl (by rw[HTO.out];exact ht1))) (by decide))
    go_wp2
    go_ret
    exact .mk hx3 (zk RR.out.symm)
   by_cases ht2:(st.length:Int)≤to
   ·have RR:=zhd (HST.out 2 (HM.out.to HE.out HN.out HF.out (.inr (by rw[HTO.out];exact ht2))) (by decide))
    go_wp2
    go_ret
    exact .mk hx3 (zk RR.out.symm)
   ·have HZ2:=zhd (HZ.out.next (HM.out.fine HE.out HN.out HF.out (by rw[HTO.out];omega)))
    go_wp2
    go_roundw
    case rel=>exact ⟨i+1,by omega,by go_num,hx3,RA3,HZ2⟩
    case measure=>simp[intOf];omega
  case neg=>
   have HF:Hid (0<i→∀j,j=i - 1→lexN (nthL l j) (nthL l i) 7<0):=zhd fun h=>by omega
   have w2':decide ((0:Int)<(i:Int))=false:=decide_eq_false (by omega)
   have w3':decide (0<i)=false:=decide_eq_false hi0
   go_wp2
   go_quiet (fail)
   refine zQ fun w3 hq3'=>?_
   have hq3:=hq3'.ext
   have hx3:=zb hx1 hq3
   have RA3:=RA2.ext hq3
   have RM3:=RM2.ext hq3
   clear t0 m0
   have t1:=RA3.zc 1 rfl
   have m7:=RM3.zc 7 rfl
   obtain ⟨to,hto⟩:∃x,x=nth m 7:=⟨_,rfl⟩
   rw[←hto]at m7
   have HTO:Hid (nth (nthL l i) 7=to):=zhd (by rw[hto,HMM.out])
   clear hto
   by_cases ht1:to<0
   ·have RR:=zhd (HST.out 2 (HM.out.to HE.out HN.out HF.out (.inl (by rw[HTO.out];exact ht1))) (by decide))
    go_wp2
    go_ret
    exact .mk hx3 (zk RR.out.symm)
   by_cases ht2:(st.length:Int)≤to
   ·have RR:=zhd (HST.out 2 (HM.out.to HE.out HN.out HF.out (.inr (by rw[HTO.out];exact ht2))) (by decide))
    go_wp2
    go_ret
    exact .mk hx3 (zk RR.out.symm)
   ·have HZ2:=zhd (HZ.out.next (HM.out.fine HE.out HN.out HF.out (by rw[HTO.out];omega)))
    go_wp2
    go_roundw
    case rel=>exact ⟨i+1,by omega,by go_num,hx3,RA3,HZ2⟩
    case measure=>simp[intOf];omega
theorem zeD {a b:Nat} (ha:a<32):inB a b=true↔without a b=0:=by
 unfold inB
 rw[yO]
 constructor
 ·intro h
  apply Nat.eq_of_testBit_eq
  intro i
  rw[yJ,Nat.zero_testBit]
  by_cases hi:i<5
  ·have:=h i hi
   revert this
   cases a.testBit i<;>cases b.testBit i<;>simp
  ·have:a.testBit i=false:=Nat.testBit_lt_two_pow (Nat.lt_of_lt_of_le ha (by
    have:2 ^ 5≤2 ^ i:=Nat.pow_le_pow_right (by decide) (by omega)
    simpa using this))
   simp[this]
 ·intro h k hk
  have:=congrArg (fun x=>Nat.testBit x k) h
  simp only[yJ,Nat.zero_testBit]at this
  revert this
  cases a.testBit k<;>cases b.testBit k<;>simp
theorem zd6 {a b:Nat} (ha:a<32) (hb:b<32):(bits .andNot .i64 (a:Int) (b:Int) !=0)= !inB a b:=by
 rw[zcS (by omega) (by omega)]
 cases h:inB a b with
 | true=>rw[(zeD ha).1 h];rfl
 | false=>
  have h0:without a b≠0:=fun h1=>by rw[(zeD ha).2 h1]at h;cases h
  rw[Bool.not_false,bne_iff_ne]
  omega
def pairOK (st:Moves) (m:List Int):Bool:=allN (grow3 st m) (nthM st (nth m 7).toNat).length
theorem zaI {st:Moves}:growsB st=true↔∀x∈pairsM st,pairOK st x.2=true:=by
 rw[zaJ,yO]
 unfold pairsM
 constructor
 ·intro h x hx
  obtain ⟨s,hs,hx⟩:=List.mem_flatMap.1 hx
  obtain ⟨m,hm,rfl⟩:=List.mem_map.1 hx
  obtain ⟨i,hi,rfl⟩:=List.getElem_of_mem hm
  have:=yO.1 (h s (List.mem_range.1 hs)) i hi
  unfold grow2 at this
  rw[zU hi]at this
  exact this
 ·intro h s hs
  unfold grow1
  rw[yO]
  intro i hi
  unfold grow2
  rw[zU hi]
  exact h (s,(nthM st s)[i]) (List.mem_flatMap.2 ⟨s,List.mem_range.2 hs,List.mem_map.2 ⟨_,List.getElem_mem hi,rfl⟩⟩)
def MoveOK (n:Int) (st:Moves) (m:List Int):Prop:=checkR m=0∧nth m 0=n∧0≤nth m 7∧nth m 7<(st.length:Int)
theorem zea {W:World} {g:Nat} {e:TypeId} {v u:Value} (h:Row W g e [v]):(W.setCell ⟨g,0,none⟩ u).cell? ⟨g,0,none⟩=some u:=(h.set 0 u).cell rfl
theorem zbq {S:Nat→Prop} {w:World} {vs:Value} {st:Moves} (n:Int) (hs:Sl (kSl (kFlat 8)) S w vs st) (hl:st.length≤1000)
  (hbad:¬(¬(n<1∨5<n)∧¬(st.length<1∨256<st.length∨4096<movesN st)∧Zeros (stateE n st) st.length)):
  Calls Tryz.prog 117 #[.agg #[.int .i64 n,vs]] w (Post w fun _ r=>r=.int .i64 (checkA n st)):=by
 have HAR:=zhd (advR n st)
 have KZ:Hid (∀W,Below w.heap.size w W→Calls Tryz.prog 132 #[.agg #[.int .i64 n,vs]] W (Post W fun _ r=>r=.int .i64 (if st.length<1∨256<st.length∨4096<movesN st then 5 else 0))):=zhd fun W hW=>YF n (hs.ext hW) hl
 have KS:Hid (∀W,Below w.heap.size w W→∀s b c,Sl (kFlat 8) S W (.slice b (nthM st s).length c) (nthM st s)→Calls Tryz.prog 133 #[.agg #[.int .i64 n,vs],.slice b (nthM st s).length c] W (Post W fun _ r=>r=.int .i64 (stateE n st s))):=zhd fun W hW s b c hr=>by rw[Qg];exact YU n (hs.ext hW) hr
 obtain ⟨r,hr⟩:∃r,r=checkA n st:=⟨_,rfl⟩
 rw[←hr]at HAR ⊢
 have HROW:Hid (∀W,Below w.heap.size w W→∀s,s<st.length→∃v,vs=v∧∃b c sa sc,v=.slice sa st.length sc∧W.cell? (adr sa s)=some (.slice b (nthM st s).length c)∧Sl (kFlat 8) S W (.slice b (nthM st s).length c) (nthM st s)):=zhd fun W hW s hs'=>by
  obtain ⟨sa,sc,e,_⟩:=hs.addr
  subst e
  obtain ⟨b,c,h1,h2⟩:=hs.mrow hW hs'
  exact ⟨_,rfl,b,c,sa,sc,rfl,h1,h2⟩
 obtain ⟨sa,sc,rfl,hm⟩:=hs.addr
 have Q:=hs.idxS
 have HS:=zhd hs.block
 have ex:=zg (ze w (.cells #[.int .i64 n,.slice sa st.length sc] 27)) (.cells #[.int .i64 0] 42)
 have R0:Row ((w.alloc (.cells #[.int .i64 n,.slice sa st.length sc] 27)).alloc (.cells #[.int .i64 0] 42)) w.heap.size 27 [.int .i64 n,.slice sa st.length sc]:=(zh w [_,_] _).alloc _
 have RN:Row ((w.alloc (.cells #[.int .i64 n,.slice sa st.length sc] 27)).alloc (.cells #[.int .i64 0] 42)) (w.heap.size+1) 42 [.int .i64 0]:=by
  have:=zh (w.alloc (.cells #[.int .i64 n,.slice sa st.length sc] 27)) [.int .i64 0] 42
  rwa [World.size_alloc]at this
 have HB:=zhd hbad
 have HSZ:=ex.size
 clear hs hr hbad
 by_cases g0:n<1
 ·have RR:=zhd (HAR.out.range (.inl g0))
  go_enter Tryz.func117,Tryz.ntmps117
  go_wp2
  refine bodyPost_ret (v:=.int .i64 2) (by simp[results,Tryz.results117,go_sem]) rfl ?_
  exact .mk (zg (ze w _) _) (zk RR.out.symm)
 by_cases g1:5<n
 ·have RR:=zhd (HAR.out.range (.inr g1))
  go_enter Tryz.func117,Tryz.ntmps117
  go_wp2
  refine bodyPost_ret (v:=.int .i64 2) (by simp[results,Tryz.results117,go_sem]) rfl ?_
  exact .mk (zg (ze w _) _) (zk RR.out.symm)
 have HN:=zhd (show¬(n<1∨5<n) by omega)
 have KZ:=zhd (KZ.out _ ex)
 have HGM:Hid ((if st.length<1∨256<st.length∨4096<movesN st then (5:Int) else 0)=0→¬(st.length<1∨256<st.length∨4096<movesN st)):=zhd fun h h1=>by rw[if_pos h1]at h;cases h
 have HGM2:Hid ((if st.length<1∨256<st.length∨4096<movesN st then (5:Int) else 0)≠0→(if st.length<1∨256<st.length∨4096<movesN st then (5:Int) else 0)=5∧(st.length<1∨256<st.length∨4096<movesN st)):=zhd fun h=>by
  by_cases h1:st.length<1∨256<st.length∨4096<movesN st
  ·exact ⟨by rw[if_pos h1],h1⟩
  ·rw[if_neg h1]at h;exact absurd rfl h
 obtain ⟨z,hz⟩:∃z:Int,z=if st.length<1∨256<st.length∨4096<movesN st then 5 else 0:=⟨_,rfl⟩
 rw[←hz]at KZ HGM HGM2
 clear hz
 have c0:=R0.zc 0 rfl
 have c1:=R0.zc 1 rfl
 by_cases hz0:z=0
 case neg=>
  obtain ⟨e5,hm5⟩:=HGM2.out hz0
  have RR:=zhd (HAR.out.many HN.out hm5)
  subst e5
  clear hm5 hz0
  go_enter Tryz.func117,Tryz.ntmps117
  go_wp2_with fail
  refine KZ.out.mono ?_
  rintro _ w1 ⟨_,rfl,hb1,rfl⟩
  have RN1:=RN.ext hb1
  have q:=RN1.zc 0 rfl
  have f:=RN1.free 0
  have zl:=RN1.lt
  have hx1:=zb ex hb1
  clear c0 c1
  go_wp2
  have qq:=zea (u:=.int .i64 5) RN1
  refine bodyPost_ret (v:=.int .i64 5) (by simp[results,Tryz.results117,go_sem,qq]) rfl ?_
  exact .mk (hx1.setCell (p:=⟨w.heap.size+1,0,none⟩) (by simp) (.int .i64 5)) (zk RR.out.symm)
 have HM:=zhd (HGM.out hz0)
 subst hz0
 go_enter Tryz.func117,Tryz.ntmps117
 go_wp2_with fail
 refine KZ.out.mono ?_
 rintro _ w1 ⟨_,rfl,hb1,rfl⟩
 have RN1:=RN.ext hb1
 have RA1:=R0.ext hb1
 have hx1:=zb ex hb1
 have t1:=RA1.zc 1 rfl
 clear c0 c1 R0 RN ex hb1 KZ
 go_wp2
 go_loopw [5,27] (fun _ i wr=>∃k:Nat,k≤st.length∧i=.int .i64 k∧Below w.heap.size w wr∧Row wr w.heap.size 27 [.int .i64 n,.slice sa st.length sc]∧Row wr (w.heap.size+1) 42 [.int .i64 0]∧Hid (Zeros (stateE n st) k)) (fun _ i _=>st.length - (intOf i).toNat)
 case atStart=>exact ⟨0,Nat.zero_le _,rfl,hx1,RA1,RN1,zhd (.zero _)⟩
 case round=>
  clear hx1 RA1 RN1 t1
  obtain ⟨k,hk,rfl,hb,RA,RN,HZ⟩:=hrel
  by_cases hlt:k<st.length
  case neg=>
   obtain rfl:k=st.length:=by omega
   exact absurd ⟨HN.out,HM.out,HZ.out⟩ HB.out
  have q:=Q.out k hlt
  obtain ⟨_,rfl,b,c,sa',sc',ev,cu,hrow⟩:=HROW.out wr hb k hlt
  simp only[Value.slice.injEq,true_and]at ev
  obtain ⟨rfl,rfl⟩:=ev
  have KX:=zhd (KS.out wr hb k b c hrow)
  obtain ⟨ln,hln⟩:∃ln,ln=(nthM st k).length:=⟨_,rfl⟩
  rw[←hln]at cu KX
  obtain ⟨e,he⟩:∃e,e=stateE n st k:=⟨_,rfl⟩
  rw[←he]at KX
  have HE:=zhd he.symm
  have t0:=RA.zc 0 rfl
  have t1:=RA.zc 1 rfl
  clear he hln hrow
  go_wp2_with fail
  refine KX.out.mono ?_
  rintro _ w2 ⟨_,rfl,hb2,rfl⟩
  have hx2:=zb hb hb2
  have RA2:=RA.ext hb2
  have RN2:=RN.ext hb2
  clear t0 t1 cu q KX
  by_cases h0:e=0
  ·subst h0
   have HZ2:=zhd (HZ.out.next HE.out)
   go_wp2
   go_roundw
   case rel=>exact ⟨k+1,by omega,by go_num,hx2,RA2,RN2,HZ2⟩
   case measure=>simp[intOf];omega
  ·have RR:=zhd (HAR.out.stop HN.out HM.out e k HZ.out HE.out h0 hlt)
   have d0:(e !=0)=true:=by simp[h0]
   have q:=RN2.zc 0 rfl
   have f:=RN2.free 0
   have zl:=RN2.lt
   clear h0
   go_wp2
   have qq:=zea (u:=.int .i64 e) RN2
   refine bodyPost_ret (v:=.int .i64 e) (by simp[results,Tryz.results117,go_sem,qq]) rfl ?_
   exact .mk (hx2.setCell (p:=⟨w.heap.size+1,0,none⟩) (by simp) (.int .i64 e)) (zk RR.out.symm)
theorem zcv {S:Nat→Prop} {w:World} {vs:Value} {st:Moves} (n:Int) (hs:Sl (kSl (kFlat 8)) S w vs st) (hl:st.length≤1000)
  (hn:¬(n<1∨5<n)) (hmm:¬(st.length<1∨256<st.length∨4096<movesN st)) (hz:Zeros (stateE n st) st.length):
  Calls Tryz.prog 117 #[.agg #[.int .i64 n,vs]] w (Post w fun _ r=>r=.int .i64 (checkA n st)):=by
 have HAR:=zhd (advR n st)
 have HN:=zhd hn
 have HM:=zhd hmm
 have HZT:=zhd hz
 have HOK:=zhd (movesOK hz)
 have HGP:=zhd (zaI (st:=st))
 have KZ:Hid (∀W,Below w.heap.size w W→Calls Tryz.prog 132 #[.agg #[.int .i64 n,vs]] W (Post W fun _ r=>r=.int .i64 (if st.length<1∨256<st.length∨4096<movesN st then 5 else 0))):=zhd fun W hW=>YF n (hs.ext hW) hl
 rw[if_neg hmm]at KZ
 have KS:Hid (∀W,Below w.heap.size w W→∀s,s<st.length→∀b c,Sl (kFlat 8) S W (.slice b (nthM st s).length c) (nthM st s)→Calls Tryz.prog 133 #[.agg #[.int .i64 n,vs],.slice b (nthM st s).length c] W (Post W fun _ r=>r=.int .i64 0)):=zhd fun W hW s hs' b c hr=>by
  have:=YU n (hs.ext hW) hr
  rw[←Qg,hz s hs']at this
  exact this
 obtain ⟨r,hr⟩:∃r,r=checkA n st:=⟨_,rfl⟩
 rw[←hr]at HAR ⊢
 have HROW:Hid (∀W,Below w.heap.size w W→∀s,s<st.length→∃v,vs=v∧∃b c sa sc,v=.slice sa st.length sc∧W.cell? (adr sa s)=some (.slice b (nthM st s).length c)∧Sl (kFlat 8) S W (.slice b (nthM st s).length c) (nthM st s)):=zhd fun W hW s hs'=>by
  obtain ⟨sa,sc,e,_⟩:=hs.addr
  subst e
  obtain ⟨b,c,h1,h2⟩:=hs.mrow hW hs'
  exact ⟨_,rfl,b,c,sa,sc,rfl,h1,h2⟩
 obtain ⟨sa,sc,rfl,hm⟩:=hs.addr
 have Q:=hs.idxS
 have HS:=zhd hs.block
 have ex:=zg (ze w (.cells #[.int .i64 n,.slice sa st.length sc] 27)) (.cells #[.int .i64 0] 42)
 have R0:Row ((w.alloc (.cells #[.int .i64 n,.slice sa st.length sc] 27)).alloc (.cells #[.int .i64 0] 42)) w.heap.size 27 [.int .i64 n,.slice sa st.length sc]:=(zh w [_,_] _).alloc _
 have RN:Row ((w.alloc (.cells #[.int .i64 n,.slice sa st.length sc] 27)).alloc (.cells #[.int .i64 0] 42)) (w.heap.size+1) 42 [.int .i64 0]:=by
  have:=zh (w.alloc (.cells #[.int .i64 n,.slice sa st.length sc] 27)) [.int .i64 0] 42
  rwa [World.size_alloc]at this
 clear hs hr hz
 have KZ:=zhd (KZ.out _ ex)
 have c0:=R0.zc 0 rfl
 have c1:=R0.zc 1 rfl
 have g0:¬n<1:=by omega
 have g1:¬5<n:=by omega
 refine (callsIn_wide (n:=6)).1 ?_
 refine callsIn_of_wp_marks Tryz.func117 rfl trivial ?_ rfl
 simp only[Tryz.ntmps117,List.size_toArray,List.length_cons,List.length_nil,Nat.reduceAdd,Nat.reduceSub,Array.replicate_succ,Array.replicate_zero,List.push_toArray,List.append_toArray,List.nil_append,List.cons_append]
 gi_wp2_with fail
 refine ⟨trivial,(callsIn_wide.2 KZ.out).mono ?_⟩
 rintro _ w1 ⟨_,rfl,hb1,rfl⟩
 have RN1:=RN.ext hb1
 have RA1:=R0.ext hb1
 have hx1:=zb ex hb1
 have t1:=RA1.zc 1 rfl
 clear c0 c1 R0 RN ex hb1 KZ hn hmm g0 g1
 gi_wp2
 clear t1
 gi_loopw [5,27] (fun _ i wr=>∃k:Nat,k≤st.length∧i=.int .i64 k∧Below w.heap.size w wr∧Row wr w.heap.size 27 [.int .i64 n,.slice sa st.length sc]∧Row wr (w.heap.size+1) 42 [.int .i64 0]) (fun _ i _=>st.length - (intOf i).toNat)
 case atStart=>exact ⟨0,Nat.zero_le _,rfl,hx1,RA1,RN1⟩
 case round=>
  clear hx1 RA1 RN1
  obtain ⟨k,hk,rfl,hb,RA,RN⟩:=hrel
  by_cases hlt:k<st.length
  case pos=>
   have q:=Q.out k hlt
   obtain ⟨_,rfl,b,c,sa',sc',ev,cu,hrow⟩:=HROW.out wr hb k hlt
   simp only[Value.slice.injEq,true_and]at ev
   obtain ⟨rfl,rfl⟩:=ev
   have KX:=zhd (KS.out wr hb k hlt b c hrow)
   obtain ⟨ln,hln⟩:∃ln,ln=(nthM st k).length:=⟨_,rfl⟩
   rw[←hln]at cu KX
   have t0:=RA.zc 0 rfl
   have t1:=RA.zc 1 rfl
   clear hln hrow
   gi_wp2_with fail
   refine ⟨trivial,(callsIn_wide.2 KX.out).mono ?_⟩
   rintro _ w2 ⟨_,rfl,hb2,rfl⟩
   have hx2:=zb hb hb2
   have RA2:=RA.ext hb2
   have RN2:=RN.ext hb2
   clear t0 t1 cu q KX
   gi_wp2
   go_roundw
   case rel=>exact ⟨k+1,by omega,by go_num,hx2,RA2,RN2⟩
   case measure=>simp[intOf];omega
  obtain rfl:k=st.length:=by omega
  have t0:=RA.zc 0 rfl
  have t1:=RA.zc 1 rfl
  obtain ⟨w2,hw2⟩:∃w2:World,w2=wr:=⟨_,rfl⟩
  rw[←hw2]at hb RA RN t0 t1 ⊢
  have KM:=zhd (xU w2 n (.slice sa st.length sc) rfl rfl)
  clear hw2 hk hlt HROW
  gi_wp2_with fail
  refine ⟨trivial,(callsIn_wide.2 KM.out).mono ?_⟩
  rintro _ _ ⟨rfl,rfl⟩
  clear t0 t1 KM
  have RB:=zh w2 [.int .i64 n,.slice sa st.length sc] 27
  have hx3:=zg hb (.cells #[.int .i64 n,.slice sa st.length sc] 27)
  have RA:=RA.alloc (.cells #[.int .i64 n,.slice sa st.length sc] 27)
  have RN:=RN.alloc (.cells #[.int .i64 n,.slice sa st.length sc] 27)
  obtain ⟨B1,hB1⟩:∃B1,B1=w2.heap.size:=⟨_,rfl⟩
  obtain ⟨w3,hw3⟩:∃w3,w3=w2.alloc (.cells #[.int .i64 n,.slice sa st.length sc] 27):=⟨_,rfl⟩
  rw[←hB1]at RB ⊢
  rw[←hw3]at RB hx3 RA RN ⊢
  clear hw3 hB1 hb
  have zw:=hx3.size
  have zB:=RB.lt
  have zA:=RA.lt
  have zN:=RN.lt
  gi_wp2_with fail
  have HST:=xP (Px:=fun x=>MoveOK n st x.2) (T:=fun b=>b<w3.heap.size) (n:=5) (by decide) RB (HS.out.ext hx3) zB (fun b hb=>by have:=hb.2;omega) (fun b hb=>hb) (fun k hk j hj=>(HOK.out k hk).2 j hj)
  apply ZX (n:=6) rfl (by decide) (gf:=150) (lb:=#[.pointer (some ⟨B1,0,none⟩)]) rfl trivial (enters_of Tryz.func150 (by kernel_rfl) rfl)
   HST xA (xp (fun b hb=>hb)) zbL (fun _=>rfl)
   (fun (pre:List {x:Nat×List Int // MoveOK n st x.2}) W=>(∀x∈pre,pairOK st x.1.2=true)∧Below w3.heap.size w3 W)
   (fun c (pre:List {x:Nat×List Int // MoveOK n st x.2}) W=>c=.ret∧(∃x∈pre,pairOK st x.1.2=false)∧Row W (w.heap.size+1) 42 [.int .i64 21]∧Below w.heap.size w W)
   (OwnFrom.and (ownFrom_pure _ _) (ownFrom_below (Nat.le_refl _) (Nat.le_refl _)))
   (fun c=>OwnFrom.and (ownFrom_pure _ _) (OwnFrom.and (ownFrom_pure _ _) (OwnFrom.and (yt (xs:=fun _=>[.int .i64 21]) zN) (ownFrom_below (Nat.le_refl _) zw))))
   ⟨by simp,Below.refl _ _⟩ (fun x=>.cells #[.int .i64 (nth x.1.2 0),.int .i64 (nth x.1.2 1),.int .i64 (nth x.1.2 2),.int .i64 (nth x.1.2 3),.int .i64 (nth x.1.2 4),.int .i64 (nth x.1.2 5),.int .i64 (nth x.1.2 6),.int .i64 (nth x.1.2 7)] 118)
  case hassign=>
   intro l x W g K hgW hK
   unfold mL
   gi_wp2
   rw[←hgW]
   exact hK
  case hbody=>
   rintro l pre ⟨⟨s,m⟩,hmk⟩ W ⟨hgd,hB⟩ hsW hlen
   dsimp only at hmk ⊢
   have hmk2:=hmk
   obtain ⟨hc1,hc2,hc3,hc4⟩:=hmk2
   obtain ⟨_,_,hc5,hc6⟩:=yL hc1
   have PA:=RA.ext hB
   have PN:=RN.ext hB
   have pn0:=PN.zc 0 rfl
   have hBw:Below w.heap.size w W:=hx3.trans (hB.mono zw)
   obtain ⟨to,hto⟩:∃t:Nat,nth m 7=t:=⟨(nth m 7).toNat,by omega⟩
   obtain ⟨fa,hfa⟩:∃t:Nat,nth m 6=t:=⟨(nth m 6).toNat,by omega⟩
   have htl:to<st.length:=by omega
   have hfl:fa<32:=by omega
   have HPO:Hid (pairOK st m=allN (grow3 st m) (nthM st to).length):=zhd (by unfold pairOK;rw[hto,Int.toNat_natCast])
   have HG3:Hid (∀k,grow3 st m k=inB fa (nth (nthL (nthM st to) k) 6).toNat):=zhd fun k=>by unfold grow3;rw[hto,hfa,Int.toNat_natCast,Int.toNat_natCast]
   have HOT:Hid (∀k,k<(nthM st to).length→∃f:Nat,f<32∧nth (nthL (nthM st to) k) 6=f):=zhd fun k hk=>by
    obtain ⟨_,_,h5,h6⟩:=yL ((HOK.out to htl).2 k hk).1
    exact ⟨(nth (nthL (nthM st to) k) 6).toNat,by omega,by omega⟩
   have HGD:=zhd hgd
   have q:=Q.out to htl
   obtain ⟨b,c,cu,hrow⟩:=(HS.out.ext hBw).mrow (.refl _ _) htl
   have HRW:Hid (∀W',Below W.heap.size W W'→Sl (kFlat 8) (fun b=>S b∧b<w.heap.size) W' (.slice b (nthM st to).length c) (nthM st to)):=zhd fun W' hW'=>hrow.ext hW'
   have QM:=hrow.idxM
   have hbs:=Nat.lt_of_lt_of_le (zO (HS.out.ad.1) (show 0<st.length by omega) to) hBw.size
   have hrl:(nthM st to).length≤140737488355328:=hrow.few
   obtain ⟨lk,hlk⟩:∃ln,ln=nthM st to:=⟨_,rfl⟩
   rw[←hlk]at HPO HG3 HOT cu HRW QM hrl
   have exb:=ze W (.cells #[.int .i64 (nth m 0),.int .i64 (nth m 1),.int .i64 (nth m 2),.int .i64 (nth m 3),.int .i64 (nth m 4),.int .i64 (nth m 5),.int .i64 (nth m 6),.int .i64 (nth m 7)] 118)
   have RM:Row (W.alloc (.cells #[.int .i64 (nth m 0),.int .i64 (nth m 1),.int .i64 (nth m 2),.int .i64 (nth m 3),.int .i64 (nth m 4),.int .i64 (nth m 5),.int .i64 (nth m 6),.int .i64 (nth m 7)] 118)) W.heap.size 118 [.int .i64 (nth m 0),.int .i64 (nth m 1),.int .i64 (nth m 2),.int .i64 (nth m 3),.int .i64 (nth m 4),.int .i64 (nth m 5),.int .i64 (nth m 6),.int .i64 (nth m 7)]:=zh W [_,_,_,_,_,_,_,_] _
   obtain ⟨g,hg⟩:∃g,g=W.heap.size:=⟨_,rfl⟩
   have hgW:w.heap.size+1<W.heap.size:=PN.lt
   have zA2:w.heap.size<W.heap.size:=PA.lt
   obtain ⟨w0,hw0⟩:∃w0,w0=W.alloc (.cells #[.int .i64 (nth m 0),.int .i64 (nth m 1),.int .i64 (nth m 2),.int .i64 (nth m 3),.int .i64 (nth m 4),.int .i64 (nth m 5),.int .i64 (nth m 6),.int .i64 (nth m 7)] 118):=⟨_,rfl⟩
   have HW0:=zhd hw0
   have HBB:=zhd hB
   have EXB:Hid (Below W.heap.size W w0):=zhd (by rw[hw0];exact exb)
   have HTO:=zhd hto
   have HFA:=zhd hfa
   rw[←hg]
   clear hgd hc1 hc2 hc3 hc4 hc5 hc6 hto hfa hrow hlk hlen hB
   rw[←hw0]
   have pa1:=(PA.ext exb).zc 1 rfl
   have cu:=zj cu exb
   rw[←hg]at RM
   rw[←hw0]at RM exb pa1 cu
   have m7:w0.cell? ⟨g,7,none⟩=some (.int .i64 (to:Int)):=by rw[←HTO.out];exact RM.zc 7 rfl
   clear hw0 hg
   gi_wp2
   clear HW0 cu q pa1 hbs pn0 zA2 m7
   gi_loopw [49] (fun i wr=>∃k:Nat,k≤lk.length∧i=.int .i64 k∧Below w0.heap.size w0 wr∧Row wr g 118 [.int .i64 (nth m 0),.int .i64 (nth m 1),.int .i64 (nth m 2),.int .i64 (nth m 3),.int .i64 (nth m 4),.int .i64 (nth m 5),.int .i64 (nth m 6),.int .i64 (nth m 7)]∧Hid (Alls (grow3 st m) k)) (fun i _=>lk.length - (intOf i).toNat)
   case atStart=>exact ⟨0,Nat.zero_le _,rfl,.refl _ _,RM,zhd (.zero _)⟩
   case round=>
    clear RM exb
    obtain ⟨k,hk,rfl,hb0,RM,HA⟩:=hrel
    have hb:=zb EXB.out hb0
    by_cases hkt:k<lk.length
    case neg=>
     obtain rfl:k=lk.length:=by omega
     have HP:Hid (pairOK st m=true):=zhd (by rw[HPO.out];exact HA.out.done (Nat.le_refl _))
     gi_wp2
     refine ⟨zV hb0,Agree.of_ext hb0,fun x hx=>?_,HBB.out.trans (hb.mono HBB.out.size)⟩
     rcases List.mem_append.1 hx with h | h
     ·exact HGD.out x h
     ·rw[List.mem_singleton.1 h];exact HP.out
    have qm:=QM.out k hkt
    have hz:=(HRW.out wr hb).nums hkt (by decide)
    have z0:=hz.1
    have z1:=hz.2 1 (by decide)
    have z2:=hz.2 2 (by decide)
    have z3:=hz.2 3 (by decide)
    have z4:=hz.2 4 (by decide)
    have z5:=hz.2 5 (by decide)
    have z6:=hz.2 6 (by decide)
    have z7:=hz.2 7 (by decide)
    have hbk:=zO (HRW.out wr hb).ad.1 (by omega) (k * 8)
    obtain ⟨fb,hfb,hfe⟩:=HOT.out k hkt
    obtain ⟨m2,hm2⟩:∃m,m=nthL lk k:=⟨_,rfl⟩
    rw[←hm2]at z0 z1 z2 z3 z4 z5 z6 z7 hfe
    rw[hfe]at z6
    have HX:=zhd (zd6 hfl hfb)
    have HB3:Hid (grow3 st m k=inB fa fb):=zhd (by rw[HG3.out k,←hm2,hfe,Int.toNat_natCast])
    obtain ⟨x,hx⟩:∃x,x=inB fa fb:=⟨_,rfl⟩
    rw[←hx]at HX HB3
    have m6:wr.cell? ⟨g,6,none⟩=some (.int .i64 (fa:Int)):=by rw[←HFA.out];exact RM.zc 6 rfl
    have hgl:=RM.lt
    have hb2:=hb0.alloc hb0.size (.cells #[.int .i64 (nth m2 0),.int .i64 (nth m2 1),.int .i64 (nth m2 2),.int .i64 (nth m2 3),.int .i64 (nth m2 4),.int .i64 (nth m2 5),.int .i64 fb,.int .i64 (nth m2 7)] 118)
    have RM2:=RM.alloc (.cells #[.int .i64 (nth m2 0),.int .i64 (nth m2 1),.int .i64 (nth m2 2),.int .i64 (nth m2 3),.int .i64 (nth m2 4),.int .i64 (nth m2 5),.int .i64 fb,.int .i64 (nth m2 7)] 118)
    have PN2:=(PN.ext hb).alloc (.cells #[.int .i64 (nth m2 0),.int .i64 (nth m2 1),.int .i64 (nth m2 2),.int .i64 (nth m2 3),.int .i64 (nth m2 4),.int .i64 (nth m2 5),.int .i64 fb,.int .i64 (nth m2 7)] 118)
    have pn0:=(PN.ext hb).zc 0 rfl
    have pf0:=(PN.ext hb).free 0
    have pl0:=(PN.ext hb).lt
    have hx2:=HX.out
    clear hz hfe hm2 hx
    cases x with
    | true=>
     have HN3:=zhd (HA.out.next HB3.out)
     simp only[Bool.not_true]at hx2
     gi_wp2
     go_roundw
     case rel=>exact ⟨k+1,by omega,by go_num,hb2,RM2,HN3⟩
     case measure=>simp[intOf];omega
    | false=>
     have HP:Hid (pairOK st m=false):=zhd (by rw[HPO.out];exact YS HB3.out hkt)
     simp only[Bool.not_false]at hx2
     have FIN:Hid (∀W',W'=(wr.alloc (.cells #[.int .i64 (nth m2 0),.int .i64 (nth m2 1),.int .i64 (nth m2 2),.int .i64 (nth m2 3),.int .i64 (nth m2 4),.int .i64 (nth m2 5),.int .i64 fb,.int .i64 (nth m2 7)] 118)).setCell ⟨w.heap.size+1,0,none⟩ (.int .i64 21)∨W'=(wr.setCell ⟨w.heap.size+1,0,none⟩ (.int .i64 21)).alloc (.cells #[.int .i64 (nth m2 0),.int .i64 (nth m2 1),.int .i64 (nth m2 2),.int .i64 (nth m2 3),.int .i64 (nth m2 4),.int .i64 (nth m2 5),.int .i64 fb,.int .i64 (nth m2 7)] 118)→KeepsOthers w0 W'∧Row W' (w.heap.size+1) 42 [.int .i64 21]∧Below w.heap.size w W'):=zhd fun W' h=>by
      rcases h with h | h
      ·subst h
       exact ⟨(zV hb2).trans (.setCell _ _ _),PN2.set 0 _,((hBw.trans (hb.mono hBw.size)).alloc (hBw.trans (hb.mono hBw.size)).size _).setCell (by simp) _⟩
      ·subst h
       exact ⟨((zV hb0).trans (.setCell _ _ _)).trans (.alloc _ _),((PN.ext hb).set 0 _).alloc _,((hBw.trans (hb.mono hBw.size)).setCell (by simp) _).alloc (by have:=(hBw.trans (hb.mono hBw.size)).size;simp;omega) _⟩
     gi_wp2
     exact ⟨(FIN.out _ (by first | exact .inl rfl | exact .inr rfl)).1,rfl,⟨_,List.mem_append.2 (.inr (List.mem_singleton.2 rfl)),HP.out⟩,(FIN.out _ (by first | exact .inl rfl | exact .inr rfl)).2.1,(FIN.out _ (by first | exact .inl rfl | exact .inr rfl)).2.2⟩
  case hstop=>
   rintro D c pre W hD hSp ⟨rfl,⟨x,hx,hxb⟩,P1,hBw⟩ hK
   have hgf:growsB st=false:=by
    cases hg:growsB st with
    | false=>rfl
    | true=>
     have:=HGP.out.1 hg x.1 (hSp.subset (List.mem_map.2 ⟨x,hx,rfl⟩))
     rw[hxb]at this
     cases this
   have RR:=zhd (HAR.out.grow HN.out HM.out HZT.out hgf)
   gi_wp2
   refine ⟨by simp,.inl ⟨_,_,rfl,run_takeDeferred hK,?_⟩⟩
   have P9:=P1.putObj (.deferred none) hK rfl
   have hB9:=hBw.grown (grownBy_putObj' _ D (.deferred none)) hBw.size (fun k hk=>by cases hk;omega)
   have q9:=P9.zc 0 rfl
   exact ⟨.int .i64 21,by simp[results,Tryz.results117,go_sem,q9],.mk hB9 (zk RR.out.symm)⟩
  case hdone=>
   rintro D xs W hD hS ⟨hgd,hB⟩ hK
   have hgt:growsB st=true:=HGP.out.2 fun x hx=>by
    rw[←hS]at hx
    obtain ⟨y,hy,rfl⟩:=List.mem_map.1 hx
    exact hgd y hy
   have RR:=zhd (HAR.out.fine HN.out HM.out HZT.out hgt)
   have PN:=RN.ext hB
   have hBw:Below w.heap.size w W:=hx3.trans (hB.mono zw)
   have q0:=PN.zc 0 rfl
   have f0:=PN.free 0
   have l0:=PN.lt
   clear hgd hgt hS
   have KD:(W.setCell ⟨w.heap.size+1,0,none⟩ (.int .i64 0)).heap[D]? =some (.deferred (some [])):=(KeepsOthers.setCell W _ _).same D _ hK rfl
   have P9:=(PN.set 0 (.int .i64 0)).putObj (.deferred none) KD rfl
   have hB8:Below w.heap.size w (W.setCell ⟨w.heap.size+1,0,none⟩ (.int .i64 0)):=hBw.setCell (by simp) _
   have hB9:=hB8.grown (grownBy_putObj' _ D (.deferred none)) hB8.size (fun k hk=>by cases hk;omega)
   have q9:=P9.zc 0 rfl
   gi_wp2
   refine ⟨by simp,.inl ⟨_,_,rfl,run_takeDeferred KD,?_⟩⟩
   exact ⟨.int .i64 0,by simp[results,Tryz.results117,go_sem,q9],.mk hB9 (zk RR.out.symm)⟩
theorem Zb {S:Nat→Prop} {w:World} {vs:Value} {st:Moves} (n:Int) (hs:Sl (kSl (kFlat 8)) S w vs st) (hl:st.length≤1000):
  Calls Tryz.prog 117 #[.agg #[.int .i64 n,vs]] w (Post w fun _ r=>r=.int .i64 (checkA n st)):=by
 by_cases h:¬(n<1∨5<n)∧¬(st.length<1∨256<st.length∨4096<movesN st)∧Zeros (stateE n st) st.length
 ·exact zcv n hs hl h.1 h.2.1 h.2.2
 ·exact zbq n hs hl h
end Go.Proofs.YtfjlhjkjjbiliaaGreat
