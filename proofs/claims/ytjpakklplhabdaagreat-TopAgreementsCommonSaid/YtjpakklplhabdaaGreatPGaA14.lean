/- Part of the proof that the laws answer true for every input. -/
import Derived.Test.YtjpakklplhabdaaGreatPGaA13
set_option linter.unusedSimpArgs false
set_option linter.unnecessarySimpa false
set_option linter.unusedVariables false
set_option maxRecDepth 100000
set_option maxHeartbeats 40000000
namespace Go.Proofs.YtjpakklplhabdaaGreat
open Go.RowKit
attribute [local go_sem ↓] Go.wp_at_zero Go.wp_at_succ
def MovesOK (n:Int) (st:Moves):Prop:=∀s,s<st.length→0<(nthM st s).length∧∀i,i<(nthM st s).length→checkR (nthL (nthM st s) i)=0∧nth (nthL (nthM st s) i) 0=n∧0≤nth (nthL (nthM st s) i) 7∧nth (nthL (nthM st s) i) 7<(st.length:Int)
theorem zbC {n:Int} {ns:Nat} {l:List (List Int)} {i:Nat} (h:moveE n ns l i=0):checkR (nthL l i)=0∧nth (nthL l i) 0=n∧0≤nth (nthL l i) 7∧nth (nthL l i) 7<(ns:Int):=by
 unfold moveE at h
 by_cases h1:checkR (nthL l i)=0
 ·rw[if_pos h1]at h
  by_cases h2:nth (nthL l i) 0≠n
  ·rw[if_pos h2]at h;cases h
  ·rw[if_neg h2]at h
   split at h
   ·cases h
   ·split at h
    ·cases h
    ·rename_i h3;exact ⟨h1,by omega,by omega,by omega⟩
 ·rw[if_neg h1]at h;exact absurd h h1
theorem movesOK {n:Int} {st:Moves} (h:Zeros (stateE n st) st.length):MovesOK n st:=by
 intro s hs
 have:=h s hs
 unfold stateE at this
 split at this
 ·cases this
 ·rename_i h0
  exact ⟨by omega,fun i hi=>zbC (zX.1 this i hi)⟩
theorem QU {l:List Int} (h:checkG l=0):1≤nth l 0∧nth l 0≤5:=by
 unfold checkG at h
 split at h
 ·cases h
 ·omega
theorem yH {l:List Int} (h:checkR l=0):1≤nth l 0∧nth l 0≤5∧0≤nth l 6∧nth l 6<32:=by
 unfold checkR at h
 split at h
 ·rename_i hg
  obtain ⟨h1,h5⟩:=QU hg
  unfold checkP at h
  rw[if_neg (by omega)]at h
  split at h
  ·cases h
  ·rename_i h2
   have:2 ^ (nth l 0).toNat≤32:=(yS (p:=(nth l 0).toNat) (by omega)).1
   omega
 ·rename_i hg;exact absurd h hg
theorem zab (l:Moves) (x:List (List Int)):movesN (l++[x])=movesN l+x.length:=by simp[movesN,List.foldl_append]
theorem zeg {st:Moves} {k:Nat} (h:k<st.length):nthM st k=st[k]:=by simp[nthM,h]
theorem qY {st:Moves} {k:Nat} (h:k<st.length):movesN (st.take (k+1))=movesN (st.take k)+(nthM st k).length:=by
 rw[List.take_succ_eq_append_getElem h,zab,zeg h]
theorem xP {st:Moves} {B:Nat} (hB:∀k,k<st.length→(nthM st k).length≤B):∀k,k≤st.length→movesN (st.take k)≤k * B:=by
 intro k
 induction k with
 | zero=>intro _;simp[movesN]
 | succ k ih=>
  intro hk
  rw[qY (by omega),Nat.succ_mul]
  have:=ih (by omega)
  have:=hB k (by omega)
  omega
theorem Sl.rows_few {S:Nat→Prop} {w:World} {v:Value} {st:Moves} (h:Sl (kSl (kFlat 8)) S w v st):∀k,k<st.length→(nthM st k).length≤140737488355328:=by
 intro k hk
 obtain ⟨a,cap,rfl,_⟩:=h.form
 obtain ⟨b,c,_,h2⟩:=h.mrow (.refl _ _) hk
 exact h2.few
theorem Sl.addr {α:Type} {K:Kd α} {S:Nat→Prop} {w:World} {v:Value} {l:List α} (h:Sl K S w v l):∃a cap,v=.slice a l.length cap∧l.length≤9223372036854775807:=by
 obtain ⟨a,cap,e,_⟩:=h.form
 have:=h.len
 exact ⟨a,cap,e,by unfold maxLen at this;omega⟩
theorem xX {S:Nat→Prop} {w:World} {vs:Value} {st:Moves} (n:Int) (hs:Sl (kSl (kFlat 8)) S w vs st) (hl:st.length≤1000):
  Calls Tryz.prog 102 #[.agg #[.int .i64 n,vs]] w (Post w fun _ r=>r=.int .i64 (movesN st)):=by
 have HS:=zhd hs
 have HB:Hid (∀k,k≤st.length→movesN (st.take k)≤k * 140737488355328):=zhd (xP hs.rows_few)
 have HL:Hid (∀k,k<st.length→(nthM st k).length≤140737488355328):=zhd hs.rows_few
 have HF:Hid (movesN (st.take st.length)=movesN st):=zhd (by rw[List.take_length])
 have HX:=zhd fun k (h:k<st.length)=>qY h
 obtain ⟨sa,sc,rfl,hm⟩:=hs.addr
 have Q:=hs.idxS
 clear hs
 have ex:=zb w (.cells #[.int .i64 n,.slice sa st.length sc] 27)
 have R:Row (w.alloc (.cells #[.int .i64 n,.slice sa st.length sc] 27)) w.heap.size 27 [.int .i64 n,.slice sa st.length sc]:=ze w [_,_] _
 go_enter Tryz.func102,Tryz.ntmps102
 go_wp2
 go_loopw [3,4] (fun s i wr=>∃k z:Nat,k≤st.length∧i=.int .i64 k∧s=.int .i64 z∧Hid (z=movesN (st.take k))∧Below w.heap.size w wr∧Row wr w.heap.size 27 [.int .i64 n,.slice sa st.length sc]) (fun _ i _=>st.length - (intOf i).toNat)
 case atStart=>exact ⟨0,0,Nat.zero_le _,rfl,rfl,zhd rfl,ex,R⟩
 case round=>
  clear ex R
  obtain ⟨k,z,hk,rfl,rfl,HZ,hb,R⟩:=hrel
  have t1:=R.zc 1 rfl
  by_cases hlt:k<st.length
  ·have q:=Q.out k hlt
   obtain ⟨b,c,cu,_⟩:=HS.out.mrow hb hlt
   obtain ⟨m,hm⟩:∃m,m=(nthM st k).length:=⟨_,rfl⟩
   rw[←hm]at cu
   have hz1:z≤k * 140737488355328:=by rw[HZ.out];exact HB.out k hk
   have hz2:m≤140737488355328:=by rw[hm];exact HL.out k hlt
   have HN:Hid (z+m=movesN (st.take (k+1))):=zhd (by rw[HX.out k hlt,HZ.out,hm])
   have hz3:k * 140737488355328≤1000 * 140737488355328:=Nat.mul_le_mul_right _ (by omega)
   have hz4:z≤140737488355328000:=by omega
   clear hm hz1 hz3
   go_wp2
   go_roundw
   case rel=>exact ⟨k+1,z+m,by omega,by go_num,by go_num,HN,hb,R⟩
   case measure=>simp[intOf];omega
  ·obtain rfl:k=st.length:=by omega
   have HR:Hid (z=movesN st):=zhd (by rw[HZ.out,HF.out])
   go_wp2
   go_ret
   exact .mk hb (by rw[←HR.out];rfl)
theorem zdw (w:World) {a b:Nat} (ha:a<4294967296) (hb:b<4294967296):Calls Tryz.prog 146 #[.int .i64 a,.int .i64 b] w (QuietP w (.bool (inB a b))):=by
 obtain ⟨r,hr⟩:∃r,r=inB a b:=⟨_,rfl⟩
 rw[←hr]
 have HR:=zhd hr
 have KA:=zhd fun W (p:Nat) (hp:p≤5)=>((yE W ha hp).mono fun _ _ h=>h.take)
 have KB:=zhd fun W (p:Nat) (hp:p≤5)=>((yE W hb hp).mono fun _ _ h=>h.take)
 clear hr
 go_enter Tryz.func146,Tryz.ntmps146
 go_wp2
 go_loopw [5] (fun i wr=>∃k:Nat,k≤5∧i=.int .i64 k∧QW w wr∧Hid (Alls (fun p=> !a.testBit p||b.testBit p) k)) (fun i _=>5 - (intOf i).toNat)
 case atStart=>exact ⟨0,Nat.zero_le _,rfl,.refl _,zhd (.zero _)⟩
 case round=>
  obtain ⟨k,hk,rfl,hQ,HA⟩:=hrel
  by_cases hlt:k<5
  ·have K1:=zhd fun W=>KA.out W k (by omega)
   have K2:=zhd fun W=>KB.out W k (by omega)
   have HN:Hid ((!a.testBit k||b.testBit k)=true→Alls (fun p=> !a.testBit p||b.testBit p) (k+1)):=zhd fun h=>HA.out.next h
   have HO:Hid ((!a.testBit k||b.testBit k)=false→r=false):=zhd fun h=>by rw[HR.out];exact Zy h hlt
   obtain ⟨x,hx⟩:∃x,x=a.testBit k:=⟨_,rfl⟩
   obtain ⟨y,hy⟩:∃x,x=b.testBit k:=⟨_,rfl⟩
   rw[←hx]at K1 HN HO
   rw[←hy]at K2 HN HO
   clear hx hy
   go_wp2_with fail
   refine (K1.out _).mono ?_
   rintro _ w1 ⟨_,rfl,hq1,rfl⟩
   cases x with
   | false=>
    have HN2:=zhd (HN.out rfl)
    go_wp2
    go_roundw
    case rel=>exact ⟨k+1,by omega,by go_num,hQ.trans hq1,HN2⟩
    case measure=>simp[intOf];omega
   | true=>
    go_wp2_with fail
    refine (K2.out _).mono ?_
    rintro _ w2 ⟨_,rfl,hq2,rfl⟩
    have hq:=(hQ.trans hq1).trans hq2
    cases y with
    | true=>
     have HN2:=zhd (HN.out rfl)
     go_wp2
     go_roundw
     case rel=>exact ⟨k+1,by omega,by go_num,hq,HN2⟩
     case measure=>simp[intOf];omega
    | false=>
     have HRR:=zhd (HO.out rfl)
     go_wp2
     go_ret
     exact .fin (zv HRR.out.symm) hq
  ·obtain rfl:k=5:=by omega
   have HRR:Hid (r=true):=zhd (by rw[HR.out];exact HA.out.done (by omega))
   go_wp2
   go_ret
   exact .fin (zv HRR.out.symm) hQ
def grow3 (st:Moves) (m:List Int) (k:Nat):Bool:=inB (nth m 6).toNat (nth (nthL (nthM st (nth m 7).toNat) k) 6).toNat
def grow2 (st:Moves) (s i:Nat):Bool:=allN (grow3 st (nthL (nthM st s) i)) (nthM st (nth (nthL (nthM st s) i) 7).toNat).length
def grow1 (st:Moves) (s:Nat):Bool:=allN (grow2 st s) (nthM st s).length
theorem Qs (st:Moves):growsB st=allN (grow1 st) st.length:=rfl
theorem Qk {S:Nat→Prop} {w:World} {vs:Value} {st:Moves} (n:Int) (hs:Sl (kSl (kFlat 8)) S w vs st) (hok:MovesOK n st):
  Calls Tryz.prog 129 #[.agg #[.int .i64 n,vs]] w (Post w fun _ r=>r=.bool (growsB st)):=by
 have HS:=zhd hs
 have HO:=zhd hok
 obtain ⟨sa,sc,rfl,hm⟩:=hs.addr
 have Q:=hs.idxS
 rw[Qs]
 obtain ⟨r,hr⟩:∃r,r=allN (grow1 st) st.length:=⟨_,rfl⟩
 rw[←hr]
 have HR:=zhd hr
 clear hs hok hr
 have ex:=zb w (.cells #[.int .i64 n,.slice sa st.length sc] 27)
 have R:Row (w.alloc (.cells #[.int .i64 n,.slice sa st.length sc] 27)) w.heap.size 27 [.int .i64 n,.slice sa st.length sc]:=ze w [_,_] _
 go_enter Tryz.func129,Tryz.ntmps129
 go_wp2
 go_loopw [3] (fun i wr=>∃s:Nat,s≤st.length∧i=.int .i64 s∧Hid (Alls (grow1 st) s)∧Below w.heap.size w wr∧Row wr w.heap.size 27 [.int .i64 n,.slice sa st.length sc]) (fun i _=>st.length - (intOf i).toNat)
 case atStart=>exact ⟨0,Nat.zero_le _,rfl,zhd (.zero _),ex,R⟩
 case round=>
  clear ex R
  obtain ⟨s,hs,rfl,HA,hb,R⟩:=hrel
  have t1:=R.zc 1 rfl
  by_cases hlt:s<st.length
  case neg=>
   obtain rfl:s=st.length:=by omega
   have HRR:Hid (r=true):=zhd (by rw[HR.out];exact HA.out.done (Nat.le_refl _))
   go_wp2
   go_ret
   exact .mk hb (zv HRR.out.symm)
  have q:=Q.out s hlt
  obtain ⟨ln,hln⟩:∃ln,ln=(nthM st s).length:=⟨_,rfl⟩
  have HLN:=zhd hln
  have HNX:Hid (Alls (grow2 st s) ln→Alls (grow1 st) (s+1)):=zhd fun h=>HA.out.next (by subst hln;exact h.done (Nat.le_refl _))
  have HNO:Hid (∀i,i<ln→grow2 st s i=false→r=false):=zhd fun i hi h=>by
   subst hln
   rw[HR.out];exact Zy (Zy h hi) hlt
  have hlm:ln≤140737488355328:=by rw[hln];exact HS.out.rows_few s hlt
  clear hln
  obtain ⟨wo,rfl⟩:∃wo:World,wo=wr:=⟨_,rfl⟩
  go_wp2
  clear t1 q
  go_loopw [4] (fun i wr=>∃i':Nat,i'≤ln∧i=.int .i64 i'∧Hid (Alls (grow2 st s) i')∧Below w.heap.size w wr∧Row wr w.heap.size 27 [.int .i64 n,.slice sa st.length sc]) (fun i _=>ln - (intOf i).toNat)
  case atStart=>exact ⟨0,Nat.zero_le _,rfl,zhd (.zero _),hb,R⟩
  case round=>
   clear hb R
   obtain ⟨i,hi,rfl,HA2,hb,R⟩:=hrel
   have t1:=R.zc 1 rfl
   have tl:=R.lt
   have q:=Q.out s hlt
   obtain ⟨b,c,cu,hrow⟩:=HS.out.mrow hb hlt
   have QM:=hrow.idxM
   rw[←HLN.out]at cu QM
   by_cases hit:i<ln
   case neg=>
    obtain rfl:i=ln:=by omega
    have HN2:=zhd (HNX.out HA2.out)
    go_wp2
    go_roundw
    case rel=>exact ⟨s+1,by omega,by go_num,HN2,hb,R⟩
    case measure=>simp[intOf];omega
   have qm:=QM.out i hit
   have hil:i<(nthM st s).length:=by rw[←HLN.out];exact hit
   have hz:=hrow.nums hil (by decide)
   have z0:=hz.1
   have z1:=hz.2 1 (by decide)
   have z2:=hz.2 2 (by decide)
   have z3:=hz.2 3 (by decide)
   have z4:=hz.2 4 (by decide)
   have z5:=hz.2 5 (by decide)
   have z6:=hz.2 6 (by decide)
   have z7:=hz.2 7 (by decide)
   have hbk:=zI hrow.ad.1 (by omega) (i * 8)
   have hbs:=zI (HS.out.ad.1) (show 0<st.length by omega) s
   have hbs:=Nat.lt_of_lt_of_le hbs hb.size
   obtain ⟨hc1,hc2,hc3,hc4⟩:=(HO.out s hlt).2 i hil
   obtain ⟨_,_,hc5,hc6⟩:=yH hc1
   have HG2:Hid (grow2 st s i=allN (grow3 st (nthL (nthM st s) i)) (nthM st (nth (nthL (nthM st s) i) 7).toNat).length):=zhd rfl
   obtain ⟨m,hm⟩:∃m,m=nthL (nthM st s) i:=⟨_,rfl⟩
   rw[←hm]at z0 z1 z2 z3 z4 z5 z6 z7 hc3 hc4 hc5 hc6 HG2
   obtain ⟨to,hto⟩:∃t:Nat,nth m 7=t:=⟨(nth m 7).toNat,by omega⟩
   obtain ⟨fa,hfa⟩:∃t:Nat,nth m 6=t:=⟨(nth m 6).toNat,by omega⟩
   have htl:to<st.length:=by omega
   have hfl:fa<32:=by omega
   have HTO:=zhd hto
   have HFA:=zhd hfa
   rw[hto]at z7 HG2
   rw[hfa]at z6
   have exb:=zb wr (.cells #[.int .i64 (nth m 0),.int .i64 (nth m 1),.int .i64 (nth m 2),.int .i64 (nth m 3),.int .i64 (nth m 4),.int .i64 (nth m 5),.int .i64 fa,.int .i64 to] 69)
   have RM:Row (wr.alloc (.cells #[.int .i64 (nth m 0),.int .i64 (nth m 1),.int .i64 (nth m 2),.int .i64 (nth m 3),.int .i64 (nth m 4),.int .i64 (nth m 5),.int .i64 fa,.int .i64 to] 69)) wr.heap.size 69 [.int .i64 (nth m 0),.int .i64 (nth m 1),.int .i64 (nth m 2),.int .i64 (nth m 3),.int .i64 (nth m 4),.int .i64 (nth m 5),.int .i64 fa,.int .i64 to]:=ze wr [_,_,_,_,_,_,_,_] _
   have hb2:=za hb exb
   have RA:=R.ext exb
   obtain ⟨lk,hlk⟩:∃ln,ln=(nthM st to).length:=⟨_,rfl⟩
   have HLK:=zhd hlk
   rw[Int.toNat_natCast,←hlk]at HG2
   obtain ⟨g,hg⟩:∃g,g=wr.heap.size:=⟨_,rfl⟩
   have hgl:w.heap.size<g:=by rw[hg];exact tl
   have hlkm:lk≤140737488355328:=by rw[hlk];exact HS.out.rows_few to htl
   have HG3:Hid (∀k,k<lk→grow3 st m k=inB fa (nth (nthL (nthM st to) k) 6).toNat):=zhd fun k hk=>by unfold grow3;rw[hto,hfa,Int.toNat_natCast,Int.toNat_natCast]
   have HOT:Hid (∀k,k<lk→∃f:Nat,f<32∧nth (nthL (nthM st to) k) 6=f):=zhd fun k hk=>by
    obtain ⟨_,_,h5,h6⟩:=yH ((HO.out to htl).2 k (by rw[←hlk];exact hk)).1
    exact ⟨(nth (nthL (nthM st to) k) 6).toNat,by omega,by omega⟩
   clear hz hrow hm hto hfa hc1 hc2 hc3 hc4 hc5 hc6 hlk R hb
   obtain ⟨w0,hw0⟩:∃w0,w0=wr.alloc (.cells #[.int .i64 (nth m 0),.int .i64 (nth m 1),.int .i64 (nth m 2),.int .i64 (nth m 3),.int .i64 (nth m 4),.int .i64 (nth m 5),.int .i64 fa,.int .i64 to] 69):=⟨_,rfl⟩
   have HW0:=zhd hw0
   go_wp2
   rw[←HW0.out,←hg]
   rw[←hw0]at hb2 RA
   rw[←hw0,←hg]at RM
   clear hw0 HW0 exb z0 z1 z2 z3 z4 z5 z6 z7 qm q cu t1 hbk hbs tl hg
   clear wr
   go_loopw [6] (fun i wr=>∃k:Nat,k≤lk∧i=.int .i64 k∧Hid (Alls (grow3 st m) k)∧Below w.heap.size w wr∧Row wr w.heap.size 27 [.int .i64 n,.slice sa st.length sc]∧Row wr g 69 [.int .i64 (nth m 0),.int .i64 (nth m 1),.int .i64 (nth m 2),.int .i64 (nth m 3),.int .i64 (nth m 4),.int .i64 (nth m 5),.int .i64 fa,.int .i64 to]) (fun i _=>lk - (intOf i).toNat)
   case atStart=>exact ⟨0,Nat.zero_le _,rfl,zhd (.zero _),hb2,RA,RM⟩
   case round=>
    clear hb2 RA RM
    obtain ⟨k,hk,rfl,HA3,hb,R,RM⟩:=hrel
    have t1:=R.zc 1 rfl
    have m6:=RM.zc 6 rfl
    have m7:=RM.zc 7 rfl
    have q:=Q.out to htl
    obtain ⟨b2,c2,cu2,hrow2⟩:=HS.out.mrow hb htl
    have QM2:=hrow2.idxM
    rw[←HLK.out]at cu2 QM2
    by_cases hkt:k<lk
    case neg=>
     obtain rfl:k=lk:=by omega
     have HN2:Hid (Alls (grow2 st s) (i+1)):=zhd (HA2.out.next (by rw[HG2.out];exact HA3.out.done (Nat.le_refl _)))
     go_wp2
     go_roundw
     case rel=>exact ⟨i+1,by omega,by go_num,HN2,hb,R⟩
     case measure=>simp[intOf];omega
    have qm2:=QM2.out k hkt
    have hkl:k<(nthM st to).length:=by rw[←HLK.out];exact hkt
    have y6:=(hrow2.nums hkl (by decide)).2 6 (by decide)
    obtain ⟨fb,hfb,hfe⟩:=HOT.out k hkt
    rw[hfe]at y6
    have KI:Hid (∀m,Calls Tryz.prog 146 #[.int .i64 fa,.int .i64 fb] (wr.drewN m) (QuietP (wr.drewN m) (.bool (inB fa fb)))):=zhd fun m=>zdw _ (by omega) (by omega)
    have HB3:Hid (grow3 st m k=inB fa fb):=zhd (by rw[HG3.out k hkt,hfe,Int.toNat_natCast])
    obtain ⟨x,hx⟩:∃x,x=inB fa fb:=⟨_,rfl⟩
    rw[←hx]at KI HB3
    have w4':(0:Int)≤(k:Int):=by omega
    have w5':(k:Int)<(lk:Int):=by omega
    have w6':(0:Int)≤(to:Int):=by omega
    have w7':(to:Int)<(st.length:Int):=by omega
    clear hrow2 hfe hx
    cases x with
    | true=>
     have HN3:=zhd (HA3.out.next HB3.out)
     go_wp2
     go_quiet ((go_at_call 146;exact zr (KI.out _)))
     go_wp2
     go_roundw
     case rel=>exact ⟨k+1,by omega,by go_num,HN3,zx hb _,R,RM⟩
     case measure=>simp[intOf];omega
    | false=>
     have HRR:Hid (r=false):=zhd (HNO.out i hit (by rw[HG2.out];exact Zy HB3.out hkt))
     go_wp2
     go_quiet ((go_at_call 146;exact zr (KI.out _)))
     go_wp2
     go_ret
     exact .mk (zx hb _) (zv HRR.out.symm)
structure AdvR (n:Int) (st:Moves) (r:Int):Prop where
 range:n<1∨5<n→r=2
 many:¬(n<1∨5<n)→st.length<1∨256<st.length∨4096<movesN st→r=5
 stop:¬(n<1∨5<n)→¬(st.length<1∨256<st.length∨4096<movesN st)→∀(x:Int) (j:Nat),Zeros (stateE n st) j→stateE n st j=x→x≠0→j<st.length→r=x
 grow:¬(n<1∨5<n)→¬(st.length<1∨256<st.length∨4096<movesN st)→Zeros (stateE n st) st.length→growsB st=false→r=21
 fine:¬(n<1∨5<n)→¬(st.length<1∨256<st.length∨4096<movesN st)→Zeros (stateE n st) st.length→growsB st=true→r=0
theorem advR (n:Int) (st:Moves):AdvR n st (checkA n st):=by
 refine ⟨fun h=>?_,fun h h2=>?_,fun h h2 x j hz hx h0 hj=>?_,fun h h2 hz hg=>?_,fun h h2 hz hg=>?_⟩
 ·unfold checkA;rw[if_pos h]
 ·unfold checkA;rw[if_neg h,if_pos h2]
 ·unfold checkA;rw[if_neg h,if_neg h2,hz.stop hx h0 hj,if_neg h0]
 ·unfold checkA;rw[if_neg h,if_neg h2,hz.done (Nat.le_refl _),if_pos rfl,hg];rfl
 ·unfold checkA;rw[if_neg h,if_neg h2,hz.done (Nat.le_refl _),if_pos rfl,hg];rfl
theorem zag {n:Int} {st:Moves} {s:Nat} (h:(nthM st s).length=0):stateE n st s=19:=by unfold stateE;rw[if_pos h]
theorem zaC {n:Int} {st:Moves} {s i:Nat} {x:Int} (h:(nthM st s).length≠0) (hz:Zeros (moveE n st.length (nthM st s)) i) (hx:moveE n st.length (nthM st s) i=x) (h0:x≠0) (hi:i<(nthM st s).length):stateE n st s=x:=by
 unfold stateE;rw[if_neg h];exact hz.stop hx h0 hi
theorem zcb {n:Int} {st:Moves} {s:Nat} (h:(nthM st s).length≠0) (hz:Zeros (moveE n st.length (nthM st s)) (nthM st s).length):stateE n st s=0:=by
 unfold stateE;rw[if_neg h];exact hz.done (Nat.le_refl _)
theorem qo {n:Int} {st:Moves} (h:checkA n st=0):1≤n∧n≤5∧1≤st.length∧st.length≤256∧movesN st≤4096∧MovesOK n st∧growsB st=true:=by
 unfold checkA at h
 by_cases h1:n<1∨5<n
 ·rw[if_pos h1]at h;cases h
 ·rw[if_neg h1]at h
  by_cases h2:st.length<1∨256<st.length∨4096<movesN st
  ·rw[if_pos h2]at h;cases h
  ·rw[if_neg h2]at h
   by_cases h3:firstE (stateE n st) st.length=0
   ·rw[if_pos h3]at h
    cases hg:growsB st with
    | false=>rw[hg]at h;cases h
    | true=>exact ⟨by omega,by omega,by omega,by omega,by omega,movesOK (zX.1 h3),rfl⟩
   ·rw[if_neg h3]at h;exact absurd h h3
theorem Y5 {S:Nat→Prop} {w:World} {vs:Value} {st:Moves} (n:Int) (hs:Sl (kSl (kFlat 8)) S w vs st):
  Calls Tryz.prog 104 #[.agg #[.int .i64 n,vs]] w (Post w fun _ r=>r=.int .i64 (checkA n st)):=by
 have HAR:=zhd (advR n st)
 obtain ⟨r,hr⟩:∃r,r=checkA n st:=⟨_,rfl⟩
 rw[←hr]at HAR ⊢
 have HS:=zhd hs
 obtain ⟨sa,sc,rfl,hm⟩:=hs.addr
 have Q:=hs.idxS
 have KM:Hid (∀W,Below w.heap.size w W→st.length≤1000→Calls Tryz.prog 102 #[.agg #[.int .i64 n,.slice sa st.length sc]] W (Post W fun _ r=>r=.int .i64 (movesN st))):=zhd fun W hW hl=>xX n (hs.ext hW) hl
 have KG:Hid (∀W,Below w.heap.size w W→MovesOK n st→Calls Tryz.prog 129 #[.agg #[.int .i64 n,.slice sa st.length sc]] W (Post W fun _ r=>r=.bool (growsB st))):=zhd fun W hW hok=>Qk n (hs.ext hW) hok
 have KV:Hid (∀W,Below w.heap.size w W→∀s,s<st.length→∀i,i<(nthM st s).length→∀b c,Sl (kFlat 8) S W (.slice b (nthM st s).length c) (nthM st s)→Calls Tryz.prog 128 #[.agg #[.int .i64 n,.slice sa st.length sc],.slice b (nthM st s).length c,.int .i64 i] W (Post W fun _ r=>r=.int .i64 (moveE n st.length (nthM st s) i))):=zhd fun W hW s hs' i hi b c hrow=>X6 n (hs.ext hW) hrow hi
 clear hs hr
 have ex:=zb w (.cells #[.int .i64 n,.slice sa st.length sc] 27)
 have R:Row (w.alloc (.cells #[.int .i64 n,.slice sa st.length sc] 27)) w.heap.size 27 [.int .i64 n,.slice sa st.length sc]:=ze w [_,_] _
 by_cases g0:n<1
 ·have RR:=zhd (HAR.out.range (.inl g0))
  go_enter Tryz.func104,Tryz.ntmps104
  go_wp2
  go_ret
  exact .mk ex (zi RR.out.symm)
 by_cases g1:5<n
 ·have RR:=zhd (HAR.out.range (.inr g1))
  go_enter Tryz.func104,Tryz.ntmps104
  go_wp2
  go_ret
  exact .mk ex (zi RR.out.symm)
 have HN:=zhd (show¬(n<1∨5<n) by omega)
 by_cases g2:st.length<1
 ·have RR:=zhd (HAR.out.many HN.out (.inl g2))
  go_enter Tryz.func104,Tryz.ntmps104
  go_wp2
  go_ret
  exact .mk ex (zi RR.out.symm)
 by_cases g3:256<st.length
 ·have RR:=zhd (HAR.out.many HN.out (.inr (.inl g3)))
  go_enter Tryz.func104,Tryz.ntmps104
  go_wp2
  go_ret
  exact .mk ex (zi RR.out.symm)
 have KM:=zhd (KM.out _ ex (by omega))
 obtain ⟨mn,hmn⟩:∃x,x=movesN st:=⟨_,rfl⟩
 rw[←hmn]at KM
 have HMN:=zhd hmn
 clear hmn
 by_cases g4:4096<mn
 ·have RR:=zhd (HAR.out.many HN.out (.inr (.inr (by rw[←HMN.out];exact g4))))
  go_enter Tryz.func104,Tryz.ntmps104
  go_wp2_with fail
  refine KM.out.mono ?_
  rintro _ w1 ⟨_,rfl,hb1,rfl⟩
  go_wp2
  go_ret
  exact .mk (za ex hb1) (zi RR.out.symm)
 have HM:=zhd (show¬(st.length<1∨256<st.length∨4096<movesN st) by rw[←HMN.out];omega)
 go_enter Tryz.func104,Tryz.ntmps104
 go_wp2_with fail
 refine KM.out.mono ?_
 rintro _ w1 ⟨_,rfl,hb1,rfl⟩
 have R1:=R.ext hb1
 have ex1:=za ex hb1
 clear R ex hb1 KM
 go_wp2
 clear g0 g1 g2 g3 g4
 go_loopw [3] (fun i wr=>∃s:Nat,s≤st.length∧i=.int .i64 s∧Hid (Zeros (stateE n st) s)∧Below w.heap.size w wr∧Row wr w.heap.size 27 [.int .i64 n,.slice sa st.length sc]) (fun i _=>st.length - (intOf i).toNat)
 case atStart=>exact ⟨0,Nat.zero_le _,rfl,zhd (.zero _),ex1,R1⟩
 case round=>
  clear ex1 R1
  obtain ⟨s,hs,rfl,HZ,hb,R⟩:=hrel
  have t0:=R.zc 0 rfl
  have t1:=R.zc 1 rfl
  by_cases hlt:s<st.length
  case neg=>
   obtain rfl:s=st.length:=by omega
   have KG2:=zhd (KG.out _ hb (movesOK HZ.out))
   obtain ⟨b,hb'⟩:∃b,b=growsB st:=⟨_,rfl⟩
   rw[←hb']at KG2
   have HB:=zhd hb'.symm
   clear hb'
   go_wp2_with fail
   refine KG2.out.mono ?_
   rintro _ w2 ⟨_,rfl,hb2,rfl⟩
   have hx2:=za hb hb2
   cases b with
   | true=>
    have RR:=zhd (HAR.out.fine HN.out HM.out HZ.out HB.out)
    go_wp2
    go_ret
    exact .mk hx2 (zi RR.out.symm)
   | false=>
    have RR:=zhd (HAR.out.grow HN.out HM.out HZ.out HB.out)
    go_wp2
    go_ret
    exact .mk hx2 (zi RR.out.symm)
  have q:=Q.out s hlt
  obtain ⟨b,c,cu,hrow⟩:=HS.out.mrow hb hlt
  have hlm:(nthM st s).length≤140737488355328:=HS.out.rows_few s hlt
  have HSD:=zhd fun h=>zag (n:=n) (st:=st) (s:=s) h
  have HSS:=zhd fun (i:Nat) (x:Int) h hz hx h0 hi=>zaC (n:=n) (st:=st) (s:=s) (i:=i) (x:=x) h hz hx h0 hi
  have HSO:=zhd fun h hz=>zcb (n:=n) (st:=st) (s:=s) h hz
  have KW:=zhd fun W hW i hi b c hr=>KV.out W hW s hlt i hi b c hr
  have HROW:Hid (∀W,Below w.heap.size w W→∃b c,W.cell? (adr sa s)=some (.slice b (nthM st s).length c)∧Sl (kFlat 8) S W (.slice b (nthM st s).length c) (nthM st s)):=zhd fun W hW=>HS.out.mrow hW hlt
  obtain ⟨ln,hln⟩:∃ln,ln=(nthM st s).length:=⟨_,rfl⟩
  rw[←hln]at cu hlm HSD HSS HSO KW HROW
  clear hln hrow
  by_cases hl0:ln=0
  ·have RR:=zhd (HAR.out.stop HN.out HM.out 19 s HZ.out (HSD.out hl0) (by decide) hlt)
   subst hl0
   go_wp2
   go_ret
   exact .mk hb (zi RR.out.symm)
  have HL0:=zhd hl0
  have dl:((ln:Int)==0)=false:=by simp;omega
  clear hl0
  obtain ⟨wo,rfl⟩:∃wo:World,wo=wr:=⟨_,rfl⟩
  go_wp2
  clear t0 t1 q cu dl
  go_loopw [4] (fun i wr=>∃i':Nat,i'≤ln∧i=.int .i64 i'∧Hid (Zeros (moveE n st.length (nthM st s)) i')∧Below w.heap.size w wr∧Row wr w.heap.size 27 [.int .i64 n,.slice sa st.length sc]) (fun i _=>ln - (intOf i).toNat)
  case atStart=>exact ⟨0,Nat.zero_le _,rfl,zhd (.zero _),hb,R⟩
  case round=>
   clear hb R
   obtain ⟨i,hi,rfl,HZ2,hb,R⟩:=hrel
   have t0:=R.zc 0 rfl
   have t1:=R.zc 1 rfl
   have q:=Q.out s hlt
   obtain ⟨b,c,cu,hrow⟩:=HROW.out wr hb
   by_cases hit:i<ln
   case neg=>
    obtain rfl:i=ln:=by omega
    have HN2:=zhd (HZ.out.next (HSO.out HL0.out HZ2.out))
    go_wp2
    go_roundw
    case rel=>exact ⟨s+1,by omega,by go_num,HN2,hb,R⟩
    case measure=>simp[intOf];omega
   have w4':(0:Int)≤(s:Int):=by omega
   have w5':(s:Int)<(st.length:Int):=by omega
   have HRW:=zhd hrow
   obtain ⟨e,he⟩:∃e,e=moveE n st.length (nthM st s) i:=⟨_,rfl⟩
   have KX:=zhd fun W hW hr=>KW.out W hW i hit b c hr
   rw[←he]at KX
   have HE:=zhd he.symm
   clear he hrow
   go_wp2
   go_still_tail 7,(by kernel_rfl)
   refine ZK fun w2 hq2=>?_
   clear t0 t1 q cu w4' w5'
   have hx2:=za hb hq2.ext
   have KY:=zhd (KX.out w2 hx2 (HRW.out.ext hq2.ext))
   have R2:=R.ext hq2.ext
   go_wp2_with fail
   refine KY.out.mono ?_
   rintro _ w3 ⟨_,rfl,hb3,rfl⟩
   have hx3:=za hx2 hb3
   have R3:=R2.ext hb3
   by_cases h0:e=0
   ·subst h0
    have HN3:=zhd (HZ2.out.next HE.out)
    go_wp2
    go_roundw
    case rel=>exact ⟨i+1,by omega,by go_num,HN3,hx3,R3⟩
    case measure=>simp[intOf];omega
   ·have RR:=zhd (HAR.out.stop HN.out HM.out e s HZ.out (HSS.out i e HL0.out HZ2.out HE.out h0 hit) h0 hlt)
    have d0:(e !=0)=true:=by simp[h0]
    clear h0
    go_wp2
    go_ret
    exact .mk hx3 (zi RR.out.symm)
def fewA (st:Moves):Bool:=decide (st.length≤8)&&decide (movesN st≤40)
theorem zax {S:Nat→Prop} {w:World} {vs:Value} {st:Moves} (n:Int) (hs:Sl (kSl (kFlat 8)) S w vs st):
  Calls Tryz.prog 75 #[.agg #[.int .i64 n,vs]] w (Post w fun _ r=>r=.bool (fewA st)):=by
 have HS:=zhd hs
 obtain ⟨sa,sc,rfl,hm⟩:=hs.addr
 have KM:Hid (∀W,Below w.heap.size w W→st.length≤1000→Calls Tryz.prog 102 #[.agg #[.int .i64 n,.slice sa st.length sc]] W (Post W fun _ r=>r=.int .i64 (movesN st))):=zhd fun W hW hl=>xX n (hs.ext hW) hl
 clear hs
 have ex:=zb w (.cells #[.int .i64 n,.slice sa st.length sc] 27)
 have R:Row (w.alloc (.cells #[.int .i64 n,.slice sa st.length sc] 27)) w.heap.size 27 [.int .i64 n,.slice sa st.length sc]:=ze w [_,_] _
 obtain ⟨mn,hmn⟩:∃x,x=movesN st:=⟨_,rfl⟩
 rw[←hmn]at KM
 have EF:Hid (fewA st=(decide (st.length≤8)&&decide (mn≤40))):=zhd (by rw[hmn];rfl)
 clear hmn
 by_cases h8:st.length≤8
 ·have KM:=zhd (KM.out _ ex (by omega))
  by_cases h40:mn≤40
  ·have E:Hid (fewA st=true):=zhd (by rw[EF.out,decide_eq_true h8,decide_eq_true h40];rfl)
   go_enter Tryz.func75,Tryz.ntmps75
   go_wp2_with fail
   refine KM.out.mono ?_
   rintro _ w1 ⟨_,rfl,hb1,rfl⟩
   go_wp2
   go_ret
   exact .mk (za ex hb1) (zv (by rw[E.out];first | exact decide_eq_true (by omega) | simp;omega))
  ·have E:Hid (fewA st=false):=zhd (by rw[EF.out,decide_eq_true h8,decide_eq_false h40];rfl)
   go_enter Tryz.func75,Tryz.ntmps75
   go_wp2_with fail
   refine KM.out.mono ?_
   rintro _ w1 ⟨_,rfl,hb1,rfl⟩
   go_wp2
   go_ret
   exact .mk (za ex hb1) (zv (by rw[E.out];first | exact decide_eq_false (by omega) | simp;omega))
 ·have E:Hid (fewA st=false):=zhd (by rw[EF.out,decide_eq_false h8];rfl)
  go_enter Tryz.func75,Tryz.ntmps75
  go_wp2
  go_ret
  exact .mk ex (zv E.out.symm)
end Go.Proofs.YtjpakklplhabdaaGreat
