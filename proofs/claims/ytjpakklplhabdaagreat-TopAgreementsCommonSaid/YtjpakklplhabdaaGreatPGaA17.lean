/- Part of the proof that the laws answer true for every input. -/
import Derived.Test.YtjpakklplhabdaaGreatPGaA16
set_option linter.unusedSimpArgs false
set_option linter.unnecessarySimpa false
set_option linter.unusedVariables false
set_option maxRecDepth 100000
set_option maxHeartbeats 40000000
namespace Go.Proofs.YtjpakklplhabdaaGreat
open Go.RowKit
attribute [local go_sem ↓] Go.wp_at_zero Go.wp_at_succ
structure PrR (p:ProbD) (r:Int):Prop where
 task:∀e,checkT p.n p.ins p.outs p.cs=e→e≠0→r=e
 adv:checkT p.n p.ins p.outs p.cs=0→∀e,checkA p.an p.st=e→e≠0→r=e
 mis:checkT p.n p.ins p.outs p.cs=0→checkA p.an p.st=0→p.n≠p.an→r=22
 rng:checkT p.n p.ins p.outs p.cs=0→checkA p.an p.st=0→p.n=p.an→p.rounds<0∨6<p.rounds→r=2
 fine:checkT p.n p.ins p.outs p.cs=0→checkA p.an p.st=0→p.n=p.an→¬(p.rounds<0∨6<p.rounds)→r=0
theorem prR (p:ProbD):PrR p (checkPr p):=by
 refine ⟨fun e h h0=>?_,fun h e h1 h0=>?_,fun h h1 h2=>?_,fun h h1 h2 h3=>?_,fun h h1 h2 h3=>?_⟩<;>unfold checkPr
 ·rw[h,if_neg h0]
 ·rw[h,if_pos rfl,h1,if_neg h0]
 ·rw[h,if_pos rfl,h1,if_pos rfl,if_neg h2]
 ·rw[h,if_pos rfl,h1,if_pos rfl,if_pos h2,if_pos h3]
 ·rw[h,if_pos rfl,h1,if_pos rfl,if_pos h2,if_neg h3]
theorem yd {p:ProbD} (h:checkPr p=0):checkT p.n p.ins p.outs p.cs=0∧checkA p.an p.st=0∧p.n=p.an∧0≤p.rounds∧p.rounds≤6:=by
 unfold checkPr at h
 by_cases h1:checkT p.n p.ins p.outs p.cs=0
 ·rw[if_pos h1]at h
  by_cases h2:checkA p.an p.st=0
  ·rw[if_pos h2]at h
   by_cases h3:p.n=p.an
   ·rw[if_pos h3]at h
    by_cases h4:p.rounds<0∨6<p.rounds
    ·rw[if_pos h4]at h;cases h
    ·exact ⟨h1,h2,h3,by omega,by omega⟩
   ·rw[if_neg h3]at h;cases h
  ·rw[if_neg h2]at h;exact absurd h h2
 ·rw[if_neg h1]at h;exact absurd h h1
theorem qL {S S':Nat→Prop} {w:World} {vc vs:Value} {p:ProbD} (hc:Sl kCase S w vc p.cs) (hs:Sl (kSl (kFlat 8)) S' w vs p.st):
  Calls Tryz.prog 76 #[.agg #[.int .i64 p.n,.int .i64 p.ins,.int .i64 p.outs,vc,.int .i64 p.an,vs,.int .i64 p.rounds]] w (Post w fun _ r=>r=.int .i64 (checkPr p)):=by
 have HPR:=zhd (prR p)
 obtain ⟨r,hr⟩:∃r,r=checkPr p:=⟨_,rfl⟩
 rw[←hr]at HPR ⊢
 obtain ⟨ca,cc,rfl,_⟩:=hc.form
 obtain ⟨sa,sc,rfl,_⟩:=hs.form
 have KT:Hid (∀W,Below w.heap.size w W→Calls Tryz.prog 103 #[.agg #[.int .i64 p.n,.int .i64 p.ins,.int .i64 p.outs,.slice ca p.cs.length cc]] W (Post W fun _ r=>r=.int .i64 (checkT p.n p.ins p.outs p.cs))):=zhd fun W hW=>Y7 _ _ _ (hc.ext hW)
 have KA:Hid (∀W,Below w.heap.size w W→Calls Tryz.prog 104 #[.agg #[.int .i64 p.an,.slice sa p.st.length sc]] W (Post W fun _ r=>r=.int .i64 (checkA p.an p.st))):=zhd fun W hW=>Y5 _ (hs.ext hW)
 obtain ⟨e1,he1⟩:∃e,e=checkT p.n p.ins p.outs p.cs:=⟨_,rfl⟩
 obtain ⟨e2,he2⟩:∃e,e=checkA p.an p.st:=⟨_,rfl⟩
 rw[←he1]at KT
 rw[←he2]at KA
 have HE1:=zhd he1.symm
 have HE2:=zhd he2.symm
 clear hr he1 he2 hc hs
 have ex:=zb w (.cells #[.int .i64 p.n,.int .i64 p.ins,.int .i64 p.outs,.slice ca p.cs.length cc,.int .i64 p.an,.slice sa p.st.length sc,.int .i64 p.rounds] 29)
 have R:Row (w.alloc (.cells #[.int .i64 p.n,.int .i64 p.ins,.int .i64 p.outs,.slice ca p.cs.length cc,.int .i64 p.an,.slice sa p.st.length sc,.int .i64 p.rounds] 29)) w.heap.size 29 [.int .i64 p.n,.int .i64 p.ins,.int .i64 p.outs,.slice ca p.cs.length cc,.int .i64 p.an,.slice sa p.st.length sc,.int .i64 p.rounds]:=ze w [_,_,_,_,_,_,_] _
 go_enter Tryz.func76,Tryz.ntmps76
 go_wp2_with fail
 refine (KT.out _ ex).mono ?_
 rintro _ w1 ⟨_,rfl,hb1,rfl⟩
 replace R:=R.ext hb1
 replace ex:=za ex hb1
 clear hb1
 by_cases h1:e1=0
 case neg=>
  have RR:=zhd (HPR.out.task e1 HE1.out h1)
  have d1:(e1 !=0)=true:=by simp[h1]
  clear h1
  go_wp2
  go_ret
  exact .mk ex (zi RR.out.symm)
 subst h1
 have t4:=R.zc 4 rfl
 have t5:=R.zc 5 rfl
 go_wp2_with fail
 refine (KA.out _ ex).mono ?_
 rintro _ w2 ⟨_,rfl,hb2,rfl⟩
 clear t4 t5
 replace R:=R.ext hb2
 replace ex:=za ex hb2
 clear hb2
 by_cases h2:e2=0
 case neg=>
  have RR:=zhd (HPR.out.adv HE1.out e2 HE2.out h2)
  have d2:(e2 !=0)=true:=by simp[h2]
  clear h2
  go_wp2
  go_ret
  exact .mk ex (zi RR.out.symm)
 subst h2
 have t0:=R.zc 0 rfl
 have t4:=R.zc 4 rfl
 have t6:=R.zc 6 rfl
 obtain ⟨n,hn⟩:∃n,n=p.n:=⟨_,rfl⟩
 obtain ⟨an,han⟩:∃n,n=p.an:=⟨_,rfl⟩
 obtain ⟨k,hk⟩:∃n,n=p.rounds:=⟨_,rfl⟩
 rw[←hn]at t0
 rw[←han]at t4
 rw[←hk]at t6
 have HM:Hid (n≠an→r=22):=zhd fun h=>HPR.out.mis HE1.out HE2.out (by rw[←hn,←han];exact h)
 have HR:Hid (n=an→k<0∨6<k→r=2):=zhd fun h h'=>HPR.out.rng HE1.out HE2.out (by rw[←hn,←han];exact h) (by rw[←hk];exact h')
 have HF:Hid (n=an→¬(k<0∨6<k)→r=0):=zhd fun h h'=>HPR.out.fine HE1.out HE2.out (by rw[←hn,←han];exact h) (by rw[←hk];exact h')
 clear hn han hk
 by_cases h3:n=an
 case neg=>
  have RR:=zhd (HM.out h3)
  have d3:(n !=an)=true:=by simp[h3]
  clear h3
  go_wp2
  go_ret
  exact .mk ex (zi RR.out.symm)
 have d3:(n !=an)=false:=by simp[h3]
 have HE:=zhd h3
 clear h3
 by_cases h4:k<0
 ·have RR:=zhd (HR.out HE.out (.inl h4))
  go_wp2
  go_ret
  exact .mk ex (zi RR.out.symm)
 by_cases h5:6<k
 ·have RR:=zhd (HR.out HE.out (.inr h5))
  go_wp2
  go_ret
  exact .mk ex (zi RR.out.symm)
 ·have RR:=zhd (HF.out HE.out (by omega))
  go_wp2
  go_ret
  exact .mk ex (zi RR.out.symm)
theorem Z0 {S S':Nat→Prop} {w:World} {vc vs:Value} {p:ProbD} (hc:Sl kCase S w vc p.cs) (hs:Sl (kSl (kFlat 8)) S' w vs p.st) (hl:p.st.length≤1000):
  Calls Tryz.prog 54 #[.agg #[.int .i64 p.n,.int .i64 p.ins,.int .i64 p.outs,vc,.int .i64 p.an,vs,.int .i64 p.rounds]] w (Post w fun _ r=>r=.int .i64 (checkPr p)):=by
 have HPR:=zhd (prR p)
 obtain ⟨r,hr⟩:∃r,r=checkPr p:=⟨_,rfl⟩
 rw[←hr]at HPR ⊢
 obtain ⟨ca,cc,rfl,_⟩:=hc.form
 obtain ⟨sa,sc,rfl,_⟩:=hs.form
 have KT:Hid (∀W,Below w.heap.size w W→Calls Tryz.prog 20 #[.agg #[.int .i64 p.n,.int .i64 p.ins,.int .i64 p.outs,.slice ca p.cs.length cc]] W (Post W fun _ r=>r=.int .i64 (checkT p.n p.ins p.outs p.cs))):=zhd fun W hW=>qh _ _ _ (hc.ext hW)
 have KA:Hid (∀W,Below w.heap.size w W→Calls Tryz.prog 94 #[.agg #[.int .i64 p.an,.slice sa p.st.length sc]] W (Post W fun _ r=>r=.int .i64 (checkA p.an p.st))):=zhd fun W hW=>xg _ (hs.ext hW) hl
 obtain ⟨e1,he1⟩:∃e,e=checkT p.n p.ins p.outs p.cs:=⟨_,rfl⟩
 obtain ⟨e2,he2⟩:∃e,e=checkA p.an p.st:=⟨_,rfl⟩
 rw[←he1]at KT
 rw[←he2]at KA
 have HE1:=zhd he1.symm
 have HE2:=zhd he2.symm
 clear hr he1 he2 hc hs
 have ex:=zb w (.cells #[.int .i64 p.n,.int .i64 p.ins,.int .i64 p.outs,.slice ca p.cs.length cc,.int .i64 p.an,.slice sa p.st.length sc,.int .i64 p.rounds] 29)
 have R:Row (w.alloc (.cells #[.int .i64 p.n,.int .i64 p.ins,.int .i64 p.outs,.slice ca p.cs.length cc,.int .i64 p.an,.slice sa p.st.length sc,.int .i64 p.rounds] 29)) w.heap.size 29 [.int .i64 p.n,.int .i64 p.ins,.int .i64 p.outs,.slice ca p.cs.length cc,.int .i64 p.an,.slice sa p.st.length sc,.int .i64 p.rounds]:=ze w [_,_,_,_,_,_,_] _
 go_enter Tryz.func54,Tryz.ntmps54
 go_wp2_with fail
 refine (KT.out _ ex).mono ?_
 rintro _ w1 ⟨_,rfl,hb1,rfl⟩
 replace R:=R.ext hb1
 replace ex:=za ex hb1
 clear hb1
 by_cases h1:e1=0
 case neg=>
  have RR:=zhd (HPR.out.task e1 HE1.out h1)
  have d1:(e1 !=0)=true:=by simp[h1]
  clear h1
  go_wp2
  go_ret
  exact .mk ex (zi RR.out.symm)
 subst h1
 have t4:=R.zc 4 rfl
 have t5:=R.zc 5 rfl
 go_wp2_with fail
 refine (KA.out _ ex).mono ?_
 rintro _ w2 ⟨_,rfl,hb2,rfl⟩
 clear t4 t5
 replace R:=R.ext hb2
 replace ex:=za ex hb2
 clear hb2
 by_cases h2:e2=0
 case neg=>
  have RR:=zhd (HPR.out.adv HE1.out e2 HE2.out h2)
  have d2:(e2 !=0)=true:=by simp[h2]
  clear h2
  go_wp2
  go_ret
  exact .mk ex (zi RR.out.symm)
 subst h2
 have t0:=R.zc 0 rfl
 have t4:=R.zc 4 rfl
 have t6:=R.zc 6 rfl
 obtain ⟨n,hn⟩:∃n,n=p.n:=⟨_,rfl⟩
 obtain ⟨an,han⟩:∃n,n=p.an:=⟨_,rfl⟩
 obtain ⟨k,hk⟩:∃n,n=p.rounds:=⟨_,rfl⟩
 rw[←hn]at t0
 rw[←han]at t4
 rw[←hk]at t6
 have HM:Hid (n≠an→r=22):=zhd fun h=>HPR.out.mis HE1.out HE2.out (by rw[←hn,←han];exact h)
 have HR:Hid (n=an→k<0∨6<k→r=2):=zhd fun h h'=>HPR.out.rng HE1.out HE2.out (by rw[←hn,←han];exact h) (by rw[←hk];exact h')
 have HF:Hid (n=an→¬(k<0∨6<k)→r=0):=zhd fun h h'=>HPR.out.fine HE1.out HE2.out (by rw[←hn,←han];exact h) (by rw[←hk];exact h')
 clear hn han hk
 by_cases h3:n=an
 case neg=>
  have RR:=zhd (HM.out h3)
  have d3:(n !=an)=true:=by simp[h3]
  clear h3
  go_wp2
  go_ret
  exact .mk ex (zi RR.out.symm)
 have d3:(n !=an)=false:=by simp[h3]
 have HE:=zhd h3
 clear h3
 by_cases h4:k<0
 ·have RR:=zhd (HR.out HE.out (.inl h4))
  go_wp2
  go_ret
  exact .mk ex (zi RR.out.symm)
 by_cases h5:6<k
 ·have RR:=zhd (HR.out HE.out (.inr h5))
  go_wp2
  go_ret
  exact .mk ex (zi RR.out.symm)
 ·have RR:=zhd (HF.out HE.out (by omega))
  go_wp2
  go_ret
  exact .mk ex (zi RR.out.symm)
def sumW (st:Moves) (k:Nat) (l:List (List Int)) (i:Nat):Nat:=((l.take i).map fun m=>cntW st k (nth m 7).toNat).sum
theorem zbR (st:Moves) (k:Nat) (l:List (List Int)):sumW st k l 0=0:=rfl
theorem zbZ {st:Moves} {k:Nat} {l:List (List Int)} {i:Nat} (h:i<l.length):sumW st k l (i+1)=sumW st k l i+cntW st k (nth (nthL l i) 7).toNat:=by
 unfold sumW;rw[yP h,List.map_append,List.sum_append];simp
theorem zda (st:Moves) (k s:Nat):sumW st k (nthM st s) (nthM st s).length=cntW st (k+1) s:=by unfold sumW;rw[List.take_length];rfl
def cutW (st:Moves) (k L s:Nat):Nat:=min (cntW st k s) (L+1)
def cntsL (st:Moves) (k L n:Nat):List Int:=(List.range n).map fun s=>(cutW st k L s:Int)
theorem zE (st:Moves) (k L n:Nat):(cntsL st k L n).length=n:=by simp[cntsL]
theorem xi {st:Moves} {k L n s:Nat} (h:s<n):nth (cntsL st k L n) s=(cutW st k L s:Int):=by simp[nth,cntsL,h]
theorem zbK (st:Moves) (k L n:Nat):cntsL st k L (n+1)=cntsL st k L n++[(cutW st k L n:Int)]:=by simp[cntsL,List.range_succ]
theorem Yn (st:Moves) (L n:Nat):cntsL st 0 L n=List.replicate n 1:=by
 apply List.ext_getElem (by simp[cntsL])
 intro i h1 h2
 simp[cntsL,cutW,cntW]
theorem ZN (st:Moves) (k L s:Nat):cutW st k L s≤L+1:=Nat.min_le_right _ _
theorem Ze {st:Moves} {k L n:Nat} (hL:L≤1048576):∀x∈cntsL st k L n,WF x:=by
 intro x hx
 obtain ⟨s,_,rfl⟩:=List.mem_map.1 hx
 have:=ZN st k L s
 exact WF.small (by omega)
theorem zck (a b L:Nat):min (min a (L+1)+min b (L+1)) (L+1)=min (a+b) (L+1):=by omega
def Cnts (base:Nat) (W:World) (v:Value) (l:List Int):Prop:=W.ownsRow base 3 1 v l.length (l.map (Value.int .i64))
theorem Cnts.read {base:Nat} {W:World} {v:Value} {l:List Int} (h:Cnts base W v l) (hw:∀x∈l,WF x):Ints (fun b=>base≤b) W v l:=.of_own h hw
theorem Cnts.ext {base:Nat} {W W':World} {v:Value} {l:List Int} (h:Cnts base W v l) (hb:Below W.heap.size W W'):Cnts base W' v l:=qn h hb
theorem Cnts.snoc {base:Nat} {W:World} {v:Value} {l:List Int} {x:Int} (h:W.ownsRow base 3 1 v (l.length+1) (l.map (Value.int .i64)++[.int .i64 x])):Cnts base W v (l++[x]):=by
 unfold Cnts;simpa using h
theorem Cnts.lt {base:Nat} {W:World} {v:Value} {l:List Int} (h:Cnts base W v l):∀k,v.ownBlock=some k→base≤k∧k<W.heap.size:=World.ownsRow.lt h
theorem Cnts.idx {base:Nat} {W:World} {a:Option Addr} {n c:Nat} {l:List Int} (h:Cnts base W (.slice a n c) l) (hn:n=l.length):∀k:Nat,k<l.length→∀W':World,(Instr.indexAt 30 (.slice a n c) (.int .i64 k)).run Tryz.prog W'=.ok (.pointer (some (adr a k))) W':=by
 obtain ⟨i,hi,_,h1,_⟩:=info_parts zC
 intro k hk W'
 have had:Ad (fun _=>True) W a n c:=by
  rcases World.ownsRow.lt h with _
  rcases (h:W.ownsRow base 3 1 _ _ _).2 with ⟨e,h0⟩ | ⟨g,cap,cur,e,hb,hg,_⟩
  ·omega
  ·injection e with e1 e2 e3
   subst e1
   exact .inr ⟨g,0,rfl,(Array.getElem?_eq_some_iff.1 hg).1,trivial⟩
 exact zz Tryz.underlying30 hi h1 had k (by omega) W'
theorem Y1 {w W W':World} {xs:List Value} {e:TypeId} (R:Row W w.heap.size e xs) (h:Below (w.heap.size+1) W W'):Row W' w.heap.size e xs:=R.agree (S:=fun b=>b=w.heap.size) (.of_below h fun b hb _=>by omega) rfl
theorem zba {S:Nat→Prop} {w:World} {vs:Value} {st:Moves} (n:Int) (hs:Sl (kSl (kFlat 8)) S w vs st) (hok:MovesOK n st) (h1:1≤st.length) (hl:st.length≤1000) (K L:Nat) (hK:K≤6) (hL:L≤1048576):
  Calls Tryz.prog 105 #[.agg #[.int .i64 n,vs],.int .i64 K,.int .i64 L] w (Post w fun _ r=>r=.int .i64 (cutW st K L 0:Nat)):=by
 obtain ⟨sa,sc,rfl,hm⟩:=hs.addr
 have Q:=hs.idxS
 have HS:=zhd hs
 have HOK:=zhd hok
 have HRF:=zhd hs.rows_few
 clear hs hok
 have ex:=zb w (.cells #[.int .i64 n,.slice sa st.length sc] 27)
 have R:Row (w.alloc (.cells #[.int .i64 n,.slice sa st.length sc] 27)) w.heap.size 27 [.int .i64 n,.slice sa st.length sc]:=ze w [_,_] _
 have HO0:=zhd (World.ownsRow_nil (w.alloc (.cells #[.int .i64 n,.slice sa st.length sc] 27)) (w.heap.size+1) 3 1)
 go_enter Tryz.func105,Tryz.ntmps105
 go_wp2
 go_loopw [7,8] (fun v i wr=>∃s:Nat,s≤st.length∧i=.int .i64 s∧Below w.heap.size w wr∧Row wr w.heap.size 27 [.int .i64 n,.slice sa st.length sc]∧∃a c,v=.slice a s c∧Hid (wr.ownsRow (w.heap.size+1) 3 1 (.slice a s c) s (List.replicate s (.int .i64 1)))) (fun _ i _=>st.length - (intOf i).toNat)
 case atStart=>exact ⟨0,Nat.zero_le _,rfl,ex,R,none,0,rfl,HO0⟩
 case round=>
  clear ex R HO0
  obtain ⟨s,hs,rfl,hb,R,va,vc,rfl,HO⟩:=hrel
  have t1:=R.zc 1 rfl
  have hbs:=R.lt
  by_cases hlt:s<st.length
  ·go_wp2_with (at_builtin;refine yc rfl (.tmp 21) (.tmp 22) 30 rfl 3 _ 8 Tryz.underlying30 zC rfl (w.heap.size+1) _ s (List.replicate s (.int .i64 1)) rfl HO.out (.int .i64 1) rfl rfl (by omega) (by omega) (by omega) ?_;intro g' c' w' ho hb' hag _)
   have HO2:Hid (w'.ownsRow (w.heap.size+1) 3 1 (.slice (some ⟨g',0,none⟩) (s+1) c') (s+1) (List.replicate (s+1) (.int .i64 1))):=zhd (by rw[List.replicate_succ'];exact ho)
   have R':=Y1 R hb'
   have hb2:=hb.trans (hb'.mono (Nat.le_succ _))
   clear ho hb' hag R hb
   go_wp2
   go_roundw
   case rel=>exact ⟨s+1,by omega,by go_num,hb2,R',_,_,rfl,HO2⟩
   case measure=>simp[intOf];omega
  obtain rfl:s=st.length:=by omega
  have HC:Hid (Cnts (w.heap.size+1) wr (.slice va st.length vc) (cntsL st 0 L st.length)):=zhd (by unfold Cnts;rw[zE,Yn,List.map_replicate];exact HO.out)
  clear HO
  obtain ⟨wo,rfl⟩:∃wo:World,wo=wr:=⟨_,rfl⟩
  go_wp2
  clear t1 hbs
  go_loopw [7,9,10,11,12,13] (fun v i _ _ _ _ wr=>∃k:Nat,k≤K∧i=.int .i64 k∧Below w.heap.size w wr∧Row wr w.heap.size 27 [.int .i64 n,.slice sa st.length sc]∧∃a c,v=.slice a st.length c∧Hid (Cnts (w.heap.size+1) wr (.slice a st.length c) (cntsL st k L st.length))) (fun _ i _ _ _ _ _=>K - (intOf i).toNat)
  case atStart=>exact ⟨0,Nat.zero_le _,rfl,hb,R,va,vc,rfl,HC⟩
  case round=>
   clear hb R HC
   obtain ⟨k,hk,rfl,hb,R,va,vc,rfl,HC⟩:=hrel
   by_cases hkt:k<K
   case neg=>
    obtain rfl:k=K:=by omega
    have hci:∀W':World,(Instr.indexAt 30 (.slice va st.length vc) (.int .i64 0)).run Tryz.prog W'=.ok (.pointer (some (adr va 0))) W':=HC.out.idx (zE _ _ _ _).symm 0 (by rw[zE];omega)
    have hcc:=zY (HC.out.read (Ze hL)) (.refl _ _) 0 (by rw[zE];omega)
    have hcv:((cntsL st k L st.length).map (Value.int .i64)).getD 0 undef=.int .i64 (cutW st k L 0:Nat):=by
     rw[←xi (show 0<st.length by omega)]
     rw[List.getD_eq_getElem?_getD,List.getElem?_map,get?_nth (by rw[zE];omega)];rfl
    rw[hcv]at hcc
    have hbk:=World.block_lt_of_cell? _ _ hcc
    clear hcv
    go_wp2
    go_ret
    exact .mk hb rfl
   obtain ⟨wo,rfl⟩:∃wo:World,wo=wr:=⟨_,rfl⟩
   have HC0:=zhd (World.ownsRow_nil wo (w.heap.size+1) 3 1)
   have HC1:Hid (Cnts (w.heap.size+1) wo (.slice none 0 0) (cntsL st (k+1) L 0)):=zhd HC0.out
   clear HC0
   go_wp2
   go_loopw [10,11,12,13] (fun v i _ _ wr=>∃s:Nat,s≤st.length∧i=.int .i64 s∧Below w.heap.size w wr∧Row wr w.heap.size 27 [.int .i64 n,.slice sa st.length sc]∧Hid (Cnts (w.heap.size+1) wr (.slice va st.length vc) (cntsL st k L st.length))∧∃a c,v=.slice a s c∧Hid (Cnts (w.heap.size+1) wr (.slice a s c) (cntsL st (k+1) L s))∧(∀g,(Value.slice a s c).ownBlock=some g→(Value.slice va st.length vc).ownBlock≠some g)) (fun _ i _ _ _=>st.length - (intOf i).toNat)
   case atStart=>exact ⟨0,Nat.zero_le _,rfl,hb,R,HC,none,0,rfl,HC1,fun g e=>by cases e⟩
   case round=>
    clear hb R HC HC1
    obtain ⟨s,hs,rfl,hb,R,HC,na,nc,rfl,HN,hne⟩:=hrel
    have t1:=R.zc 1 rfl
    by_cases hst:s<st.length
    case neg=>
     obtain rfl:s=st.length:=by omega
     go_wp2
     go_roundw
     case rel=>exact ⟨k+1,by omega,by go_num,hb,R,na,nc,rfl,HN⟩
     case measure=>simp[intOf];omega
    have q:=Q.out s hst
    obtain ⟨b,c,cu,hrow⟩:=HS.out.mrow hb hst
    have hlm:=HRF.out s hst
    have HSM:=zhd fun i (h:i<(nthM st s).length)=>zbZ (st:=st) (k:=k) h
    have HSA:=zhd (zda st k s)
    have HTO:=zhd (HOK.out s hst).2
    have HROW:Hid (∀W,Below w.heap.size w W→∃b c,W.cell? (adr sa s)=some (.slice b (nthM st s).length c)∧Sl (kFlat 8) S W (.slice b (nthM st s).length c) (nthM st s)):=zhd fun W hW=>HS.out.mrow hW hst
    obtain ⟨row,hrw⟩:∃row,row=nthM st s:=⟨_,rfl⟩
    rw[←hrw]at cu hlm HSM HSA HTO HROW
    have HZ:Hid (min (sumW st k row 0) (L+1)=0):=zhd (by rw[zbR];simp)
    clear hrw hrow q cu
    obtain ⟨wo,rfl⟩:∃wo:World,wo=wr:=⟨_,rfl⟩
    go_wp2
    clear t1
    go_loopw [12,13] (fun m i W=>∃j:Nat,j≤row.length∧i=.int .i64 j∧W=wo∧∃x:Nat,m=.int .i64 x∧Hid (x=min (sumW st k row j) (L+1))) (fun _ i _=>row.length - (intOf i).toNat)
    case atStart=>exact ⟨0,Nat.zero_le _,rfl,rfl,0,rfl,zhd HZ.out.symm⟩
    case round=>
     obtain ⟨j,hj,rfl,rfl,x,rfl,HX⟩:=hrel
     have t1:=R.zc 1 rfl
     have q:=Q.out s hst
     obtain ⟨b,c,cu,hrow⟩:=HROW.out wr hb
     by_cases hjt:j<row.length
     case neg=>
      obtain rfl:j=row.length:=by omega
      have HV:Hid (x=cutW st (k+1) L s):=zhd (by rw[HX.out,HSA.out];rfl)
      have hbs:=R.lt
      have hbl:=HC.out.lt
      have hsl:(cntsL st (k+1) L s).length=s:=zE _ _ _ _
      have HNN:Hid (wr.ownsRow (w.heap.size+1) 3 1 (.slice na s nc) s ((cntsL st (k+1) L s).map (Value.int .i64))):=zhd (by have:=HN.out;unfold Cnts at this;rwa [hsl]at this)
      have HSL:=zhd hsl
      clear hsl hrow
      go_wp2_with (at_builtin;refine yc rfl (.tmp 63) (.tmp 65) 30 rfl 3 _ 8 Tryz.underlying30 zC rfl (w.heap.size+1) _ s ((cntsL st (k+1) L s).map (Value.int .i64)) rfl HNN.out (.int .i64 x) rfl rfl (by omega) (by omega) (by omega) ?_;intro g' c' w' ho hb' hag hg')
      have HN2:Hid (Cnts (w.heap.size+1) w' (.slice (some ⟨g',0,none⟩) (s+1) c') (cntsL st (k+1) L (s+1))):=zhd (by rw[zbK,←HV.out];exact Cnts.snoc (by rw[HSL.out];exact ho))
      have R':=Y1 R hb'
      have hb2:=hb.trans (hb'.mono (Nat.le_succ _))
      have HC2:Hid (Cnts (w.heap.size+1) w' (.slice va st.length vc) (cntsL st k L st.length)):=zhd (zO (S:=fun b=>(Value.slice na s nc).ownBlock≠some b) HC.out (hag _ fun g hg h=>h hg) fun g hg h=>hne g h hg)
      have hne2:∀g,(Value.slice (some ⟨g',0,none⟩) (s+1) c').ownBlock=some g→(Value.slice va st.length vc).ownBlock≠some g:=fun g e1 e2=>by
       have e3:g'=g:=by simpa[Value.ownBlock] using e1
       subst e3
       rcases hg' with h | h
       ·exact hne _ h e2
       ·have:=(hbl _ e2).2;omega
      clear ho hb' hag R hb HC HN HNN hg' hne t1
      go_wp2
      go_roundw
      case rel=>exact ⟨s+1,by omega,by go_num,hb2,R',HC2,_,_,rfl,HN2,hne2⟩
      case measure=>simp[intOf];omega
     have qm:=hrow.idxM.out j hjt
     have hz:=hrow.nums hjt (by decide)
     have z7:=hz.2 7 (by decide)
     have hbk:=zI hrow.ad.1 (by omega) (j * 8)
     obtain ⟨_,_,hto1,hto2⟩:=HTO.out j hjt
     obtain ⟨to,hto⟩:∃t:Nat,nth (nthL row j) 7=t:=⟨(nth (nthL row j) 7).toNat,by omega⟩
     rw[hto]at z7 hto1 hto2
     have htl:to<st.length:=by omega
     have hci:=HC.out.idx (zE _ _ _ _).symm to (by rw[zE];omega)
     have hcc:=zY (HC.out.read (Ze hL)) (.refl _ _) to (by rw[zE];omega)
     have hcv:((cntsL st k L st.length).map (Value.int .i64)).getD to undef=.int .i64 (cutW st k L to:Nat):=by
      rw[←xi (show to<st.length by omega)]
      rw[List.getD_eq_getElem?_getD,List.getElem?_map,get?_nth (by rw[zE];omega)];rfl
     rw[hcv]at hcc
     have hbk2:=World.block_lt_of_cell? _ _ hcc
     obtain ⟨y,hy⟩:∃y,y=cutW st k L to:=⟨_,rfl⟩
     have hxl:x≤L+1:=by rw[HX.out];exact Nat.min_le_right _ _
     have hyl:y≤L+1:=by rw[hy];exact ZN _ _ _ _
     have HN3:Hid (min (x+y) (L+1)=min (sumW st k row (j+1)) (L+1)):=zhd (by rw[HX.out,hy,HSM.out j hjt,hto,Int.toNat_natCast];exact zck _ _ _)
     rw[←hy]at hcc
     have hw1:IntKind.i64.wrap ((x:Int)+(y:Int))=((x+y:Nat):Int):=by rw[IntKind.wrap_i64];omega
     have hw2:IntKind.i64.wrap ((L:Int)+1)=((L+1:Nat):Int):=by rw[IntKind.wrap_i64];omega
     clear hy hcv hz hto hto1 hto2
     go_wp2
     go_roundw
     case rel=>exact ⟨j+1,by omega,by go_num,trivial,min (x+y) (L+1),zi (by split<;>omega),HN3⟩
     case measure=>simp[intOf];omega
end Go.Proofs.YtjpakklplhabdaaGreat
