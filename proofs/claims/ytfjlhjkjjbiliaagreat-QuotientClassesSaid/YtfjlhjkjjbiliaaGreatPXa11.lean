/- Part of the proof that the laws answer true for every input. -/
import Derived.Test.YtfjlhjkjjbiliaaGreatPXa10
import Derived.RangeFuncNested
import Derived.RangeFuncBound
import Derived.RangeFuncCalls
import Derived.RangeFuncLeaves
import Derived.RangeFuncFrom
import Derived.Shelf.Abstract
import Derived.Shelf.RegionOpen
import Derived.OwnWalkIn
import Derived.TacticsInMore
import Derived.LoopNIn
import Derived.LoopIn
set_option linter.unusedSimpArgs false
set_option linter.unnecessarySimpa false
set_option linter.unusedVariables false
set_option maxRecDepth 100000
set_option maxHeartbeats 40000000
namespace Go.Proofs.YtfjlhjkjjbiliaaGreat
open Go.RowKit
attribute [local go_sem ↓] Go.wp_at_zero Go.wp_at_succ
structure AdvR (n:Int) (st:Moves) (r:Int):Prop where
 range:n<1∨5<n→r=2
 many:¬(n<1∨5<n)→st.length<1∨256<st.length∨4096<movesN st→r=5
 stop:¬(n<1∨5<n)→¬(st.length<1∨256<st.length∨4096<movesN st)→∀(x:Int) (j:Nat),Zeros (stateE n st) j→stateE n st j=x→x≠0→j<st.length→r=x
 grow:¬(n<1∨5<n)→¬(st.length<1∨256<st.length∨4096<movesN st)→Zeros (stateE n st) st.length→growsB st=false→r=21
 fine:¬(n<1∨5<n)→¬(st.length<1∨256<st.length∨4096<movesN st)→Zeros (stateE n st) st.length→growsB st=true→r=0
theorem advR (n:Int) (st:Moves):AdvR n st (checkA n st):=by
 refine ⟨fun h=>?_,fun h h2=>?_,fun h h2 x j hz hx h0 hj=>?_,fun h h2 hz hg=>?_,fun h h2 hz hg=>?_⟩
 ·unfold checkA;rw[if_pos h]
 ·unfold checkA;rw[if_neg h,if_pos h2]
 ·unfold checkA;rw[if_neg h,if_neg h2,hz.stop hx h0 hj,if_neg h0]
 ·unfold checkA;rw[if_neg h,if_neg h2,hz.done (Nat.le_refl _),if_pos rfl,hg];rfl
 ·unfold checkA;rw[if_neg h,if_neg h2,hz.done (Nat.le_refl _),if_pos rfl,hg];rfl
theorem zbA {n:Int} {st:Moves} {s:Nat} (h:(nthM st s).length=0):stateE n st s=19:=by unfold stateE;rw[if_pos h]
theorem za8 {n:Int} {st:Moves} {s i:Nat} {x:Int} (h:(nthM st s).length≠0) (hz:Zeros (moveE n st.length (nthM st s)) i) (hx:moveE n st.length (nthM st s) i=x) (h0:x≠0) (hi:i<(nthM st s).length):stateE n st s=x:=by
 unfold stateE;rw[if_neg h];exact hz.stop hx h0 hi
theorem zdY {n:Int} {st:Moves} {s:Nat} (h:(nthM st s).length≠0) (hz:Zeros (moveE n st.length (nthM st s)) (nthM st s).length):stateE n st s=0:=by
 unfold stateE;rw[if_neg h];exact hz.done (Nat.le_refl _)
theorem qI {n:Int} {st:Moves} (h:checkA n st=0):1≤n∧n≤5∧1≤st.length∧st.length≤256∧movesN st≤4096∧MovesOK n st∧growsB st=true:=by
 unfold checkA at h
 by_cases h1:n<1∨5<n
 ·rw[if_pos h1]at h;cases h
 ·rw[if_neg h1]at h
  by_cases h2:st.length<1∨256<st.length∨4096<movesN st
  ·rw[if_pos h2]at h;cases h
  ·rw[if_neg h2]at h
   by_cases h3:firstE (stateE n st) st.length=0
   ·rw[if_pos h3]at h
    cases hg:growsB st with
    | false=>rw[hg]at h;cases h
    | true=>exact ⟨by omega,by omega,by omega,by omega,by omega,movesOK (yX.1 h3),rfl⟩
   ·rw[if_neg h3]at h;exact absurd h h3
theorem Xx {S:Nat→Prop} {w:World} {vs:Value} {st:Moves} (n:Int) (hs:Sl (kSl (kFlat 8)) S w vs st):
  Calls Tryz.prog 103 #[.agg #[.int .i64 n,vs]] w (Post w fun _ r=>r=.int .i64 (checkA n st)):=by
 have HAR:=zhd (advR n st)
 obtain ⟨r,hr⟩:∃r,r=checkA n st:=⟨_,rfl⟩
 rw[←hr]at HAR ⊢
 have HS:=zhd hs
 obtain ⟨sa,sc,rfl,hm⟩:=hs.addr
 have Q:=hs.idxS
 have KM:Hid (∀W,Below w.heap.size w W→st.length≤1000→Calls Tryz.prog 101 #[.agg #[.int .i64 n,.slice sa st.length sc]] W (Post W fun _ r=>r=.int .i64 (movesN st))):=zhd fun W hW hl=>ZU n (hs.ext hW) hl
 have KG:Hid (∀W,Below w.heap.size w W→MovesOK n st→Calls Tryz.prog 121 #[.agg #[.int .i64 n,.slice sa st.length sc]] W (Post W fun _ r=>r=.bool (growsB st))):=zhd fun W hW hok=>X6 n (hs.ext hW) hok
 have KV:Hid (∀W,Below w.heap.size w W→∀s,s<st.length→∀i,i<(nthM st s).length→∀b c,Sl (kFlat 8) S W (.slice b (nthM st s).length c) (nthM st s)→Calls Tryz.prog 120 #[.agg #[.int .i64 n,.slice sa st.length sc],.slice b (nthM st s).length c,.int .i64 i] W (Post W fun _ r=>r=.int .i64 (moveE n st.length (nthM st s) i))):=zhd fun W hW s hs' i hi b c hrow=>za1 n (hs.ext hW) hrow hi
 clear hs hr
 have ex:=ze w (.cells #[.int .i64 n,.slice sa st.length sc] 27)
 have R:Row (w.alloc (.cells #[.int .i64 n,.slice sa st.length sc] 27)) w.heap.size 27 [.int .i64 n,.slice sa st.length sc]:=zh w [_,_] _
 by_cases g0:n<1
 ·have RR:=zhd (HAR.out.range (.inl g0))
  go_enter Tryz.func103,Tryz.ntmps103
  go_wp2
  go_ret
  exact .mk ex (zk RR.out.symm)
 by_cases g1:5<n
 ·have RR:=zhd (HAR.out.range (.inr g1))
  go_enter Tryz.func103,Tryz.ntmps103
  go_wp2
  go_ret
  exact .mk ex (zk RR.out.symm)
 have HN:=zhd (show¬(n<1∨5<n) by omega)
 by_cases g2:st.length<1
 ·have RR:=zhd (HAR.out.many HN.out (.inl g2))
  go_enter Tryz.func103,Tryz.ntmps103
  go_wp2
  go_ret
  exact .mk ex (zk RR.out.symm)
 by_cases g3:256<st.length
 ·have RR:=zhd (HAR.out.many HN.out (.inr (.inl g3)))
  go_enter Tryz.func103,Tryz.ntmps103
  go_wp2
  go_ret
  exact .mk ex (zk RR.out.symm)
 have KM:=zhd (KM.out _ ex (by omega))
 obtain ⟨mn,hmn⟩:∃x,x=movesN st:=⟨_,rfl⟩
 rw[←hmn]at KM
 have HMN:=zhd hmn
 clear hmn
 by_cases g4:4096<mn
 ·have RR:=zhd (HAR.out.many HN.out (.inr (.inr (by rw[←HMN.out];exact g4))))
  go_enter Tryz.func103,Tryz.ntmps103
  go_wp2_with fail
  refine KM.out.mono ?_
  rintro _ w1 ⟨_,rfl,hb1,rfl⟩
  go_wp2
  go_ret
  exact .mk (zb ex hb1) (zk RR.out.symm)
 have HM:=zhd (show¬(st.length<1∨256<st.length∨4096<movesN st) by rw[←HMN.out];omega)
 go_enter Tryz.func103,Tryz.ntmps103
 go_wp2_with fail
 refine KM.out.mono ?_
 rintro _ w1 ⟨_,rfl,hb1,rfl⟩
 have R1:=R.ext hb1
 have ex1:=zb ex hb1
 clear R ex hb1 KM
 go_wp2
 clear g0 g1 g2 g3 g4
 go_loopw [3] (fun i wr=>∃s:Nat,s≤st.length∧i=.int .i64 s∧Hid (Zeros (stateE n st) s)∧Below w.heap.size w wr∧Row wr w.heap.size 27 [.int .i64 n,.slice sa st.length sc]) (fun i _=>st.length - (intOf i).toNat)
 case atStart=>exact ⟨0,Nat.zero_le _,rfl,zhd (.zero _),ex1,R1⟩
 case round=>
  clear ex1 R1
  obtain ⟨s,hs,rfl,HZ,hb,R⟩:=hrel
  have t0:=R.zc 0 rfl
  have t1:=R.zc 1 rfl
  by_cases hlt:s<st.length
  case neg=>
   obtain rfl:s=st.length:=by omega
   have KG2:=zhd (KG.out _ hb (movesOK HZ.out))
   obtain ⟨b,hb'⟩:∃b,b=growsB st:=⟨_,rfl⟩
   rw[←hb']at KG2
   have HB:=zhd hb'.symm
   clear hb'
   go_wp2_with fail
   refine KG2.out.mono ?_
   rintro _ w2 ⟨_,rfl,hb2,rfl⟩
   have hx2:=zb hb hb2
   cases b with
   | true=>
    have RR:=zhd (HAR.out.fine HN.out HM.out HZ.out HB.out)
    go_wp2
    go_ret
    exact .mk hx2 (zk RR.out.symm)
   | false=>
    have RR:=zhd (HAR.out.grow HN.out HM.out HZ.out HB.out)
    go_wp2
    go_ret
    exact .mk hx2 (zk RR.out.symm)
  have q:=Q.out s hlt
  obtain ⟨b,c,cu,hrow⟩:=HS.out.mrow hb hlt
  have hlm:(nthM st s).length≤140737488355328:=HS.out.rows_few s hlt
  have HSD:=zhd fun h=>zbA (n:=n) (st:=st) (s:=s) h
  have HSS:=zhd fun (i:Nat) (x:Int) h hz hx h0 hi=>za8 (n:=n) (st:=st) (s:=s) (i:=i) (x:=x) h hz hx h0 hi
  have HSO:=zhd fun h hz=>zdY (n:=n) (st:=st) (s:=s) h hz
  have KW:=zhd fun W hW i hi b c hr=>KV.out W hW s hlt i hi b c hr
  have HROW:Hid (∀W,Below w.heap.size w W→∃b c,W.cell? (adr sa s)=some (.slice b (nthM st s).length c)∧Sl (kFlat 8) S W (.slice b (nthM st s).length c) (nthM st s)):=zhd fun W hW=>HS.out.mrow hW hlt
  obtain ⟨ln,hln⟩:∃ln,ln=(nthM st s).length:=⟨_,rfl⟩
  rw[←hln]at cu hlm HSD HSS HSO KW HROW
  clear hln hrow
  by_cases hl0:ln=0
  ·have RR:=zhd (HAR.out.stop HN.out HM.out 19 s HZ.out (HSD.out hl0) (by decide) hlt)
   subst hl0
   go_wp2
   go_ret
   exact .mk hb (zk RR.out.symm)
  have HL0:=zhd hl0
  have dl:((ln:Int)==0)=false:=by simp;omega
  clear hl0
  obtain ⟨wo,rfl⟩:∃wo:World,wo=wr:=⟨_,rfl⟩
  go_wp2
  clear t0 t1 q cu dl
  go_loopw [4] (fun i wr=>∃i':Nat,i'≤ln∧i=.int .i64 i'∧Hid (Zeros (moveE n st.length (nthM st s)) i')∧Below w.heap.size w wr∧Row wr w.heap.size 27 [.int .i64 n,.slice sa st.length sc]) (fun i _=>ln - (intOf i).toNat)
  case atStart=>exact ⟨0,Nat.zero_le _,rfl,zhd (.zero _),hb,R⟩
  case round=>
   clear hb R
   obtain ⟨i,hi,rfl,HZ2,hb,R⟩:=hrel
   have t0:=R.zc 0 rfl
   have t1:=R.zc 1 rfl
   have q:=Q.out s hlt
   obtain ⟨b,c,cu,hrow⟩:=HROW.out wr hb
   by_cases hit:i<ln
   case neg=>
    obtain rfl:i=ln:=by omega
    have HN2:=zhd (HZ.out.next (HSO.out HL0.out HZ2.out))
    go_wp2
    go_roundw
    case rel=>exact ⟨s+1,by omega,by go_num,HN2,hb,R⟩
    case measure=>simp[intOf];omega
   have w4':(0:Int)≤(s:Int):=by omega
   have w5':(s:Int)<(st.length:Int):=by omega
   have HRW:=zhd hrow
   obtain ⟨e,he⟩:∃e,e=moveE n st.length (nthM st s) i:=⟨_,rfl⟩
   have KX:=zhd fun W hW hr=>KW.out W hW i hit b c hr
   rw[←he]at KX
   have HE:=zhd he.symm
   clear he hrow
   go_wp2
   go_still_tail 7,(by kernel_rfl)
   refine Yz fun w2 hq2=>?_
   clear t0 t1 q cu w4' w5'
   have hx2:=zb hb hq2.ext
   have KY:=zhd (KX.out w2 hx2 (HRW.out.ext hq2.ext))
   have R2:=R.ext hq2.ext
   go_wp2_with fail
   refine KY.out.mono ?_
   rintro _ w3 ⟨_,rfl,hb3,rfl⟩
   have hx3:=zb hx2 hb3
   have R3:=R2.ext hb3
   by_cases h0:e=0
   ·subst h0
    have HN3:=zhd (HZ2.out.next HE.out)
    go_wp2
    go_roundw
    case rel=>exact ⟨i+1,by omega,by go_num,HN3,hx3,R3⟩
    case measure=>simp[intOf];omega
   ·have RR:=zhd (HAR.out.stop HN.out HM.out e s HZ.out (HSS.out i e HL0.out HZ2.out HE.out h0 hit) h0 hlt)
    have d0:(e !=0)=true:=by simp[h0]
    clear h0
    go_wp2
    go_ret
    exact .mk hx3 (zk RR.out.symm)
def fewA (st:Moves):Bool:=decide (st.length≤8)&&decide (movesN st≤40)
theorem zbk {S:Nat→Prop} {w:World} {vs:Value} {st:Moves} (n:Int) (hs:Sl (kSl (kFlat 8)) S w vs st):
  Calls Tryz.prog 79 #[.agg #[.int .i64 n,vs]] w (Post w fun _ r=>r=.bool (fewA st)):=by
 have HS:=zhd hs
 obtain ⟨sa,sc,rfl,hm⟩:=hs.addr
 have KM:Hid (∀W,Below w.heap.size w W→st.length≤1000→Calls Tryz.prog 101 #[.agg #[.int .i64 n,.slice sa st.length sc]] W (Post W fun _ r=>r=.int .i64 (movesN st))):=zhd fun W hW hl=>ZU n (hs.ext hW) hl
 clear hs
 have ex:=ze w (.cells #[.int .i64 n,.slice sa st.length sc] 27)
 have R:Row (w.alloc (.cells #[.int .i64 n,.slice sa st.length sc] 27)) w.heap.size 27 [.int .i64 n,.slice sa st.length sc]:=zh w [_,_] _
 obtain ⟨mn,hmn⟩:∃x,x=movesN st:=⟨_,rfl⟩
 rw[←hmn]at KM
 have EF:Hid (fewA st=(decide (st.length≤8)&&decide (mn≤40))):=zhd (by rw[hmn];rfl)
 clear hmn
 by_cases h8:st.length≤8
 ·have KM:=zhd (KM.out _ ex (by omega))
  by_cases h40:mn≤40
  ·have E:Hid (fewA st=true):=zhd (by rw[EF.out,decide_eq_true h8,decide_eq_true h40];rfl)
   go_enter Tryz.func79,Tryz.ntmps79
   go_wp2_with fail
   refine KM.out.mono ?_
   rintro _ w1 ⟨_,rfl,hb1,rfl⟩
   go_wp2
   go_ret
   exact .mk (zb ex hb1) (zr (by rw[E.out];first | exact decide_eq_true (by omega) | simp;omega))
  ·have E:Hid (fewA st=false):=zhd (by rw[EF.out,decide_eq_true h8,decide_eq_false h40];rfl)
   go_enter Tryz.func79,Tryz.ntmps79
   go_wp2_with fail
   refine KM.out.mono ?_
   rintro _ w1 ⟨_,rfl,hb1,rfl⟩
   go_wp2
   go_ret
   exact .mk (zb ex hb1) (zr (by rw[E.out];first | exact decide_eq_false (by omega) | simp;omega))
 ·have E:Hid (fewA st=false):=zhd (by rw[EF.out,decide_eq_false h8];rfl)
  go_enter Tryz.func79,Tryz.ntmps79
  go_wp2
  go_ret
  exact .mk ex (zr E.out.symm)
end Go.Proofs.YtfjlhjkjjbiliaaGreat
namespace Go.Proofs.YtfjlhjkjjbiliaaGreat
open Go.RowKit Go.Shelf
attribute [local go_sem ↓] Go.wp_at_zero Go.wp_at_succ
attribute [local go_sem] Oper.semAt_some
theorem xA {T:Nat→Prop} {A B C:World} (h:Agree T A B) (k:Agree T B C):Agree T A C:=h.trans k
theorem xp {T:Nat→Prop} {w:World} (hT:∀b,T b→b<w.heap.size) (W:World) (l:Nat) (o o':Obj) (hl:w.heap.size≤l) (h:W.heap[l]? =some o) (_:o.isCells=false) (_:o.isWalk=false):Agree T W (W.putObj l o'):=
 .of_grown (grownBy_putObj' W l o') fun b hb e=>by
  have:=hT b hb
  cases e
  omega
theorem zV {w w':World} (h:Below w.heap.size w w'):KeepsOthers w w':=
 ⟨h.size,fun k o hk _=>(h.block k (Array.getElem?_eq_some_iff.1 hk).1).trans hk⟩
def pairsM (st:Moves):List (Nat×List Int):=(List.range st.length).flatMap fun s=>(nthM st s).map fun m=>(s,m)
def pairsTo (st:Moves) (k:Nat):List (Nat×List Int):=(List.range k).flatMap fun s=>(nthM st s).map fun m=>(s,m)
theorem yK (st:Moves) (k:Nat):pairsTo st (k+1)=pairsTo st k++(nthM st k).map fun m=>(k,m):=by
 unfold pairsTo;rw[List.range_succ,List.flatMap_append,List.flatMap_singleton]
theorem qM (st:Moves):pairsTo st st.length=pairsM st:=rfl
theorem xE {st:Moves} {k j:Nat} (h:k<st.length):pairsTo st k++((nthM st k).take j).map (fun m=>(k,m))<+:pairsM st:=by
 have h1:pairsTo st (k+1)<+:pairsM st:=by
  rw[←qM]
  unfold pairsTo
  obtain ⟨d,hd⟩:∃d,st.length=(k+1)+d:=⟨st.length - (k+1),by omega⟩
  rw[hd,show List.range (k+1+d)=List.range (k+1)++(List.range d).map (k+1+·) from List.range_add ..,List.flatMap_append]
  exact List.prefix_append _ _
 refine List.IsPrefix.trans ?_ h1
 rw[yK]
 refine (List.prefix_append_right_inj _).2 ?_
 rw[List.map_take]
 exact List.take_prefix _ _
theorem Xl {l:List (List Int)} {j k:Nat} (h:j<l.length):(l.take (j+1)).map (fun m=>(k,m))=(l.take j).map (fun m=>(k,m))++[(k,nthL l j)]:=by
 rw[yG h];simp
theorem qC (st:Moves):(pairsM st).length=movesN st:=by
 have:∀k,k≤st.length→(pairsTo st k).length=movesN (st.take k):=by
  intro k
  induction k with
  | zero=>intro _;simp[pairsTo,movesN]
  | succ k ih=>
   intro hk
   rw[yK,List.length_append,List.length_map,ih (by omega),xK (by omega)]
 rw[←qM,this _ (Nat.le_refl _),List.take_length]
theorem xP {Px:Nat×List Int→Prop} {S T:Nat→Prop} {w:World} {n B:Nat} (hn:1≤n) {N:Int} {sa:Option Addr} {sc:Nat} {st:Moves} (R1:Row w B 27 [.int .i64 N,.slice sa st.length sc]) (hs:Sl (kSl (kFlat 8)) S w (.slice sa st.length sc) st) (hT1:T B) (hTS:∀b,S b→T b) (hTw:∀b,T b→b<w.heap.size) (hPx:∀k,k<st.length→∀j,j<(nthM st k).length→Px (k,nthL (nthM st k) j)):
  SeqStopsK Fence.wide n Tryz.prog 150 #[.pointer (some ⟨B,0,none⟩)] (fun x:{x:Nat×List Int // Px x}=>#[.int .i64 x.1.1,mL x.1.2]) (Agree T) (fun xs=>xs.map (·.1)=pairsM st) (fun pre=>pre.map (·.1)<+:pairsM st) (pairsM st).length w:=by
 intro l J Jx W hW hJ hJx hY h0
 have Q:=hs.idxS
 have HS:=zhd hs
 have hst:=hs.addr
 obtain ⟨_,_,_,hm⟩:=hst
 have HY:=zhd hY
 have H0:=zhd h0
 have HJ:=zhd hJ
 have R1:=R1.ext hW
 have HTS:=zhd hTS
 have HTw:=zhd hTw
 have HPX0:=zhd hPx
 have p1:=R1.zc 1 rfl
 have hag:Agree T W W:=.refl _ _
 have hWs:=hW.size
 have AG:Hid (∀W',Agree T W W'→Sl (kSl (kFlat 8)) S W' (.slice sa st.length sc) st):=zhd fun W' h=>(hs.ext hW).agree (h.mono hTS)
 clear hs hJ hJx hY h0 hTS hTw hPx
 refine callsIn_of_wp Tryz.func150 rfl trivial ?_ rfl
 simp only[Tryz.ntmps150,List.size_toArray,List.length_cons,List.length_nil,Nat.reduceAdd,Nat.reduceSub,Array.replicate_succ,Array.replicate_zero,List.push_toArray,List.append_toArray,List.nil_append,List.cons_append]
 gi_wp2
 gi_loopw [3,4,10] (fun _ _ i wr=>∃(k:Nat) (pre:List {x:Nat×List Int // Px x}),k≤st.length∧i=.int .i64 k∧Hid (J pre wr)∧Hid (pre.map (·.1)=pairsTo st k)∧Agree T W wr) (fun _ _ i _=>st.length - (intOf i).toNat)
 case atStart=>exact ⟨0,[],Nat.zero_le _,rfl,H0,zhd rfl,hag⟩
 case round=>
  obtain ⟨k,pre,hk,rfl,HJs,HP,hA⟩:=hrel
  obtain ⟨wo,hwo⟩:∃wo:World,wo=wr:=⟨_,rfl⟩
  rw[←hwo]at HJs hA ⊢
  clear hwo
  by_cases hlt:k<st.length
  ·have q:=Q.out k hlt
   obtain ⟨b,c,cu,hrow⟩:=(AG.out wo hA).mrow (.refl _ _) hlt
   have HFT:=zhd (yK st k)
   have HFP:=zhd (fun j=>xE (st:=st) (k:=k) (j:=j) hlt)
   have HMT:=zhd fun j (h:j<(nthM st k).length)=>Xl (k:=k) h
   have hrl:(nthM st k).length≤140737488355328:=hrow.few
   have HTL:Hid ((nthM st k).take (nthM st k).length=nthM st k):=zhd (List.take_length ..)
   have HPI:Hid (pre.map (·.1)=pairsTo st k++((nthM st k).take 0).map (fun m=>(k,m))):=zhd (by simpa using HP.out)
   have HRW:Hid (∀W',Agree T W W'→Sl (kFlat 8) S W' (.slice b (nthM st k).length c) (nthM st k)):=zhd fun W' h=>by
    obtain ⟨b',c',cu',hrow'⟩:=(AG.out W' h).mrow (.refl _ _) hlt
    have e1:W'.cell? (adr sa k)=wo.cell? (adr sa k):=by
     have had:=HS.out.ad.1
     rw[had.cell ((Agree.of_ext hW).trans (h.mono HTS.out)) hlt,had.cell ((Agree.of_ext hW).trans (hA.mono HTS.out)) hlt]
    rw[cu',cu]at e1
    injection e1 with e1
    rw[e1]at hrow'
    exact hrow'
   have QM:=hrow.idxM
   have HPJ:=zhd (HPX0.out k hlt)
   obtain ⟨r,hr⟩:∃r,r=nthM st k:=⟨_,rfl⟩
   rw[←hr]at cu HFT HFP HMT hrl HTL HPI HRW QM HPJ
   clear hrow hr
   gi_wp2
   gi_loopw [17] (fun i wi=>∃(j:Nat) (pre:List {x:Nat×List Int // Px x}),j≤r.length∧i=.int .i64 j∧Hid (J pre wi)∧Hid (pre.map (·.1)=pairsTo st k++(r.take j).map (fun m=>(k,m)))∧Agree T W wi) (fun i _=>r.length - (intOf i).toNat)
   case atStart=>exact ⟨0,pre,Nat.zero_le _,rfl,HJs,HPI,hA⟩
   case round=>
    clear HJs HP hA HPI cu
    obtain ⟨j,pre,hj,rfl,HJs,HP,hA⟩:=hrel
    by_cases hjl:j<r.length
    ·have qr:=QM.out j hjl
     have hz:=(HRW.out wr hA).nums hjl (by decide)
     have z0:=hz.1
     have z1:=hz.2 1 (by decide)
     have z2:=hz.2 2 (by decide)
     have z3:=hz.2 3 (by decide)
     have z4:=hz.2 4 (by decide)
     have z5:=hz.2 5 (by decide)
     have z6:=hz.2 6 (by decide)
     have z7:=hz.2 7 (by decide)
     have hbk:=zO (HRW.out wr hA).ad.1 (show 0<r.length by omega) (j * 8)
     have hpl:pre.length<(pairsM st).length:=by
      have h2:=(HFP.out (j+1)).length_le
      rw[HMT.out j hjl,←List.append_assoc,←HP.out,List.length_append,List.length_map]at h2
      simp at h2
      omega
     have hpx:Px (k,nthL r j):=HPJ.out j hjl
     obtain ⟨m,hm'⟩:∃m,m=nthL r j:=⟨_,rfl⟩
     rw[←hm']at hpx
     have HPN:Hid ((pre++[(⟨(k,m),hpx⟩:{x:Nat×List Int // Px x})]).map (·.1)=pairsTo st k++(r.take (j+1)).map (fun m=>(k,m))):=zhd (by rw[HMT.out j hjl,List.map_append,HP.out,List.append_assoc];simp only[List.map_cons,List.map_nil,hm'])
     have HPX:Hid ((pre++[(⟨(k,m),hpx⟩:{x:Nat×List Int // Px x})]).map (·.1)<+:pairsM st):=zhd (by rw[HPN.out];exact HFP.out (j+1))
     rw[←hm']at z0 z1 z2 z3 z4 z5 z6 z7
     have hA2:Agree T W (wr.alloc (.cells #[.int .i64 (nth m 0),.int .i64 (nth m 1),.int .i64 (nth m 2),.int .i64 (nth m 3),.int .i64 (nth m 4),.int .i64 (nth m 5),.int .i64 (nth m 6),.int .i64 (nth m 7)] 118)):=hA.alloc _
     have HJ2:J pre (wr.alloc (.cells #[.int .i64 (nth m 0),.int .i64 (nth m 1),.int .i64 (nth m 2),.int .i64 (nth m 3),.int .i64 (nth m 4),.int .i64 (nth m 5),.int .i64 (nth m 6),.int .i64 (nth m 7)] 118)):=HJ.out pre wr _ none HJs.out (World.grownBy_alloc _ _ _) (fun r e=>by cases e)
     obtain ⟨fn,tmps,assign,body,hyy,hRnd⟩:=HY.out pre ⟨(k,m),hpx⟩ _ HJ2 hpl
     unfold mL at hyy
     dsimp only at hyy
     clear hpl hm' hz HJ2
     gi_wp2
     refine hRnd.mono ?_
     rintro e W3 (⟨rfl,hJ3,hk3⟩ | ⟨rfl,hJx3⟩)
     ·have HJ3:=zhd hJ3
      have hA3:=hA2.trans hk3
      clear hJ3 hyy hRnd z0 z1 z2 z3 z4 z5 z6 z7
      gi_wp2
      go_roundw
      case rel=>exact ⟨j+1,_,by omega,by go_num,HJ3,HPN,hA3⟩
      case measure=>simp[intOf];omega
     ·have HJ3:=zhd hJx3
      clear hJx3 hyy hRnd z0 z1 z2 z3 z4 z5 z6 z7
      gi_wp2
      refine bodyPost_ret (results_none rfl _ _ _) rfl ?_
      exact ⟨⟨_,rfl⟩,.inr ⟨_,HPX.out,HJ3.out⟩⟩
    ·obtain rfl:j=r.length:=by omega
     have HPN:Hid (pre.map (·.1)=pairsTo st (k+1)):=zhd (by rw[HFT.out,HP.out,HTL.out])
     clear HP
     gi_wp2
     go_roundw
     case rel=>exact ⟨k+1,pre,by omega,by go_num,HJs,HPN,hA⟩
     case measure=>simp[intOf];omega
  ·obtain rfl:k=st.length:=by omega
   have HPE:Hid (pre.map (·.1)=pairsM st):=zhd HP.out
   gi_wp2
   go_end0
   exact ⟨⟨_,rfl⟩,.inl ⟨pre,HPE.out,HJs.out⟩⟩
theorem xU (w:World) (n:Int) (v:Value) (hv:v.cells.size=1) {a:Option Addr} {k c:Nat} (e:v=.slice a k c):Calls Tryz.prog 134 #[.agg #[.int .i64 n,v]] w fun e w'=>e=.returned (.func (.func 150) #[] #[.pointer (some ⟨w.heap.size,0,none⟩)])∧w'=w.alloc (.cells #[.int .i64 n,v] 27):=by
 subst e
 go_enter Tryz.func134,Tryz.ntmps134
 go_wp2
 go_ret
 exact ⟨rfl,rfl⟩
theorem yt {β:Type} {B g:Nat} {e:TypeId} {xs:β→List Value} (hg:g<B):OwnFrom B (fun (s:β) W=>Row W g e (xs s)):=
 fun s A C row hs hg' hr=>hs.grown hg' (fun e=>by have:=(hr _ e).1;omega)
theorem Xi {β:Type} {B:Nat} {T:Nat→Prop} {w0:World} (hT:∀b,T b→b<B):OwnFrom B (fun (_:β) W=>Agree T w0 W):=
 fun s A C row hs hg' hr=>hs.trans (.of_grown hg' fun b hb e=>by have:=hT b hb;have:=(hr _ e).1;omega)
theorem qF {β:Type} (B:Nat):OwnFrom B (fun (_:β) (_:World)=>False):=fun _ _ _ _ h _ _=>h
theorem YF {S:Nat→Prop} {w:World} {vs:Value} {st:Moves} (n:Int) (hs:Sl (kSl (kFlat 8)) S w vs st) (hl:st.length≤1000):
  Calls Tryz.prog 132 #[.agg #[.int .i64 n,vs]] w (Post w fun _ r=>r=.int .i64 (if st.length<1∨256<st.length∨4096<movesN st then 5 else 0)):=by
 have hsum:movesN st≤140737488355328000:=by
  have:=ZM hs.rows_few st.length (Nat.le_refl _)
  rw[List.take_length]at this
  have h2:st.length * 140737488355328≤1000 * 140737488355328:=Nat.mul_le_mul_right _ hl
  omega
 obtain ⟨sa,sc,rfl,hm⟩:=hs.addr
 have HS:=zhd hs.block
 have HLEN:=zhd (qC st)
 obtain ⟨r,hr⟩:∃r:Int,r=if st.length<1∨256<st.length∨4096<movesN st then 5 else 0:=⟨_,rfl⟩
 rw[←hr]
 have HR:=zhd hr
 clear hs hr
 have ex:=zg (ze w (.cells #[.int .i64 n,.slice sa st.length sc] 27)) (.cells #[.int .i64 0] 3)
 have R0:Row ((w.alloc (.cells #[.int .i64 n,.slice sa st.length sc] 27)).alloc (.cells #[.int .i64 0] 3)) w.heap.size 27 [.int .i64 n,.slice sa st.length sc]:=(zh w [_,_] _).alloc _
 have RN:Row ((w.alloc (.cells #[.int .i64 n,.slice sa st.length sc] 27)).alloc (.cells #[.int .i64 0] 3)) (w.heap.size+1) 3 [.int .i64 0]:=by
  have:=zh (w.alloc (.cells #[.int .i64 n,.slice sa st.length sc] 27)) [.int .i64 0] 3
  rwa [World.size_alloc]at this
 refine (callsIn_wide (n:=6)).1 ?_
 refine callsIn_of_wp_marks Tryz.func132 rfl trivial ?_ rfl
 simp only[Tryz.ntmps132,List.size_toArray,List.length_cons,List.length_nil,Nat.reduceAdd,Nat.reduceSub,Array.replicate_succ,Array.replicate_zero,List.push_toArray,List.append_toArray,List.nil_append,List.cons_append]
 obtain ⟨w2,hw2⟩:∃w2,w2=(w.alloc (.cells #[.int .i64 n,.slice sa st.length sc] 27)).alloc (.cells #[.int .i64 0] 3):=⟨_,rfl⟩
 have c0:=R0.zc 0 rfl
 have c1:=R0.zc 1 rfl
 rw[←hw2]at ex R0 RN
 have KM:=zhd (xU w2 n (.slice sa st.length sc) rfl rfl)
 gi_wp2_with fail
 rw[←hw2]
 clear hw2 c0 c1
 refine ⟨trivial,(callsIn_wide.2 KM.out).mono ?_⟩
 rintro _ _ ⟨rfl,rfl⟩
 have RB:=zh w2 [.int .i64 n,.slice sa st.length sc] 27
 have hx3:=zg ex (.cells #[.int .i64 n,.slice sa st.length sc] 27)
 have R0:=R0.alloc (.cells #[.int .i64 n,.slice sa st.length sc] 27)
 have RN:=RN.alloc (.cells #[.int .i64 n,.slice sa st.length sc] 27)
 obtain ⟨B1,hB1⟩:∃B1,B1=w2.heap.size:=⟨_,rfl⟩
 obtain ⟨w3,hw3⟩:∃w3,w3=w2.alloc (.cells #[.int .i64 n,.slice sa st.length sc] 27):=⟨_,rfl⟩
 rw[←hB1]at RB ⊢
 rw[←hw3]at RB hx3 R0 RN ⊢
 have zB:=RB.lt
 have zN:=RN.lt
 have hB2:w.heap.size+1<B1:=by
  have:=ex.size
  have e2:=hB1
  have:=RN
  rw[hB1]
  have h9:w.heap.size+1<w2.heap.size:=by
   have hz:=(show w3.heap.size=w2.heap.size+1 by rw[hw3];simp)
   rcases Nat.lt_or_ge (w.heap.size+1) w2.heap.size with h | h
   ·exact h
   ·have:w.heap.size+1=w2.heap.size:=by omega
    rw[this,hw3]at RN
    have hx:=World.alloc_heap_new w2 (.cells #[.int .i64 n,.slice sa st.length sc] 27)
    unfold Row at RN
    rw[hx]at RN
    simp at RN
  exact h9
 clear hw3 hB1 KM ex
 gi_wp2_with fail
 have HST:=xP (Px:=fun _=>True) (T:=fun b=>b<w.heap.size∨b=B1) (n:=5) (by decide) RB (HS.out.ext hx3) (.inr rfl) (fun b hb=>.inl hb.2) (fun b hb=>by have:=hx3.size;rcases hb with h | h<;>omega) (fun _ _ _ _=>trivial)
 have zw:=hx3.size
 apply wpIn_rangeFunc_ownF (n:=6) rfl (by decide) (gf:=150) (lb:=#[.pointer (some ⟨B1,0,none⟩)]) rfl trivial (enters_of Tryz.func150 (by kernel_rfl) rfl)
  HST xA (xp (fun b hb=>by rcases hb with h | h<;>omega)) (Below.refl _ _) (fun _=>rfl)
  (fun (pre:List {x:Nat×List Int // True}) W=>Row W (w.heap.size+1) 3 [.int .i64 (pre.length:Nat)]∧(Row W w.heap.size 27 [.int .i64 n,.slice sa st.length sc]∧Below w.heap.size w W))
  (fun c (pre:List {x:Nat×List Int // True}) W=>False)
  (OwnFrom.and (yt (xs:=fun pre:List {x:Nat×List Int // True}=>[.int .i64 (pre.length:Nat)]) zN) (OwnFrom.and (yt (xs:=fun _=>[.int .i64 n,.slice sa st.length sc]) (by omega)) (ownFrom_below (Nat.le_refl _) zw)))
  (fun c=>qF _) ⟨RN,R0,hx3⟩
 case hassign=>
  intro l x W K hK
  gi_wp2
  exact hK
 case hbody=>
  rintro l pre ⟨⟨s,m⟩,_⟩ W ⟨P1,P0,hB⟩ hlen
  rw[HLEN.out]at hlen
  have q1:=P1.zc 0 rfl
  have f1:=P1.free 0
  have z1:=P1.lt
  have HW:Hid (∀u,u=(pre.length:Int)+1→KeepsOthers W (W.setCell ⟨w.heap.size+1,0,none⟩ (.int .i64 u))∧Agree (fun b=>b<w.heap.size∨b=B1) W (W.setCell ⟨w.heap.size+1,0,none⟩ (.int .i64 u))∧(Row (W.setCell ⟨w.heap.size+1,0,none⟩ (.int .i64 u)) (w.heap.size+1) 3 [.int .i64 ((pre++[(⟨(s,m),trivial⟩:{x:Nat×List Int // True})]).length:Nat)]∧(Row (W.setCell ⟨w.heap.size+1,0,none⟩ (.int .i64 u)) w.heap.size 27 [.int .i64 n,.slice sa st.length sc]∧Below w.heap.size w (W.setCell ⟨w.heap.size+1,0,none⟩ (.int .i64 u))))):=zhd fun u hu=>by
   subst hu
   refine ⟨.setCell _ _ _,.of_grown (zi _ _ _ _) fun b hb e=>?_,by simpa using P1.set 0 (.int .i64 ((pre.length:Int)+1)),P0.grown (zi _ _ _ _) (by simp),hB.setCell (by simp) _⟩
   have:=Option.some.inj e
   rcases hb with h | h<;>omega
  obtain ⟨k,hk⟩:∃k,k=pre.length:=⟨_,rfl⟩
  rw[←hk]at HW q1 hlen
  clear P1 P0 hB hk
  gi_wp2
  exact HW.out _ rfl
 case hstop=>
  rintro D c pre W hD hSp h hK
  exact h.elim
 case hdone=>
  rintro D xs W hD hS ⟨P1,P0,hB⟩ hK
  rw[show xs.length=movesN st by rw[←HLEN.out,←hS,List.length_map]]at P1
  have q1:=P1.zc 0 rfl
  have c1:=P0.zc 1 rfl
  have hB9:=hB.grown (grownBy_putObj' W D (.deferred none)) hB.size (fun k hk=>by cases hk;omega)
  obtain ⟨mn,hmn⟩:∃x,x=movesN st:=⟨_,rfl⟩
  rw[←hmn]at HR q1 hsum
  clear P1 P0 hS hmn
  have fin:∀x:Int,r=x→Post w (fun _ q=>q=.int .i64 r) (.returned (.int .i64 x)) (W.putObj D (.deferred none)):=fun x hx=>.mk hB9 (by rw[hx])
  have FIN:=zhd fin
  clear fin hB9
  by_cases g1:st.length<1
  ·have RR:Hid (r=5):=zhd (by rw[HR.out,if_pos (.inl g1)])
   gi_wp2
   refine ⟨by simp,.inl ⟨_,_,rfl,run_takeDeferred hK,?_⟩⟩
   exact ⟨.int .i64 5,by simp[results,Tryz.results132,go_sem],FIN.out _ RR.out⟩
  by_cases g2:256<st.length
  ·have RR:Hid (r=5):=zhd (by rw[HR.out,if_pos (.inr (.inl g2))])
   gi_wp2
   refine ⟨by simp,.inl ⟨_,_,rfl,run_takeDeferred hK,?_⟩⟩
   exact ⟨.int .i64 5,by simp[results,Tryz.results132,go_sem],FIN.out _ RR.out⟩
  by_cases g3:4096<mn
  ·have RR:Hid (r=5):=zhd (by rw[HR.out,if_pos (.inr (.inr g3))])
   gi_wp2
   refine ⟨by simp,.inl ⟨_,_,rfl,run_takeDeferred hK,?_⟩⟩
   exact ⟨.int .i64 5,by simp[results,Tryz.results132,go_sem],FIN.out _ RR.out⟩
  ·have RR:Hid (r=0):=zhd (by rw[HR.out,if_neg (by omega)])
   gi_wp2
   refine ⟨by simp,.inl ⟨_,_,rfl,run_takeDeferred hK,?_⟩⟩
   exact ⟨.int .i64 0,by simp[results,Tryz.results132,go_sem],FIN.out _ RR.out⟩
end Go.Proofs.YtfjlhjkjjbiliaaGreat
