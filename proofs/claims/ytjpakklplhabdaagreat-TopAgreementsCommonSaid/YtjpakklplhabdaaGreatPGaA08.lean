/- Part of the proof that the laws answer true for every input. -/
import Derived.Test.YtjpakklplhabdaaGreatPGaA05
import Derived.Test.YtjpakklplhabdaaGreatPGaA06
set_option linter.unusedSimpArgs false
set_option linter.unnecessarySimpa false
set_option linter.unusedVariables false
set_option maxRecDepth 100000
set_option maxHeartbeats 40000000
namespace Go.Proofs.YtjpakklplhabdaaGreat
open Go.RowKit
theorem zdr (w:World) (n:Int):Calls Tryz.prog 157 #[.int .i64 n] w (QuietP w (.int .i64 (if n<1∨5<n then 1 else 0))):=by
 by_cases h1:n<1
 ·rw[if_pos (.inl h1)]
  go_enter Tryz.func157,Tryz.ntmps157
  go_wp2
  go_ret
  exact .same
 by_cases h5:5<n
 ·rw[if_pos (.inr h5)]
  go_enter Tryz.func157,Tryz.ntmps157
  go_wp2
  go_ret
  exact .same
 ·rw[if_neg (by omega)]
  go_enter Tryz.func157,Tryz.ntmps157
  go_wp2
  go_ret
  exact .same
theorem zcq (w:World) (n:Int):Calls Tryz.prog 156 #[.int .i64 n] w (QuietP w (.int .i64 (if n<1∨5<n then 1 else 0))):=by
 by_cases h1:n<1
 ·rw[if_pos (.inl h1)]
  go_enter Tryz.func156,Tryz.ntmps156
  go_wp2
  go_ret
  exact .same
 by_cases h5:5<n
 ·rw[if_pos (.inr h5)]
  go_enter Tryz.func156,Tryz.ntmps156
  go_wp2
  go_ret
  exact .same
 ·rw[if_neg (by omega)]
  go_enter Tryz.func156,Tryz.ntmps156
  go_wp2
  go_ret
  exact .same
theorem zaO {a n:Nat}:(((a:Int) / 2 ^ n) !=0)=decide (2 ^ n≤a):=by
 have e:((a:Int) / 2 ^ n)=((a / 2 ^ n:Nat):Int):=by simp
 rw[e]
 have hp:0<2 ^ n:=Nat.pow_pos (by decide)
 by_cases h:2 ^ n≤a
 ·have h0:0<a / 2 ^ n:=Nat.div_pos h hp
  rw[decide_eq_true h,bne_iff_ne]
  exact fun h1=>absurd (Int.natCast_eq_zero.1 h1) (by exact Nat.ne_of_gt h0)
 ·have h0:a / 2 ^ n=0:=Nat.div_eq_of_lt (by exact Nat.lt_of_not_le h)
  rw[decide_eq_false h,h0];rfl
theorem zeQ (w:World) (n s:Int):Calls Tryz.prog 153 #[.int .i64 n,.int .i64 s] w (QuietP w (.int .i64 (checkP n s))):=by
 have K:=zhd ((zdr w n).mono fun _ _ h=>h.take)
 by_cases hn:n<1∨5<n
 ·rw[show checkP n s=1 by unfold checkP;rw[if_pos hn]]
  rw[if_pos hn]at K
  clear hn
  go_enter Tryz.func153,Tryz.ntmps153
  go_wp2_with fail
  refine K.out.mono ?_
  rintro _ w1 ⟨_,rfl,hq1,rfl⟩
  go_wp2
  go_ret
  exact .fin rfl hq1
 rw[if_neg hn]at K
 obtain ⟨m,rfl⟩:∃m:Nat,n=m:=⟨n.toNat,by omega⟩
 have hm5:m≤5:=by omega
 have EC:checkP (m:Int) s=if s<0∨((2 ^ m:Nat):Int)≤s then 2 else 0:=by unfold checkP;rw[if_neg hn];rfl
 by_cases h0:s<0
 ·rw[EC,if_pos (.inl h0)]
  clear EC hn
  go_enter Tryz.func153,Tryz.ntmps153
  go_wp2_with fail
  refine K.out.mono ?_
  rintro _ w1 ⟨_,rfl,hq1,rfl⟩
  go_wp2
  go_ret
  exact .fin rfl hq1
 obtain ⟨a,rfl⟩:∃a:Nat,s=a:=⟨s.toNat,by omega⟩
 have KP:=zhd fun W=>((qR W hm5).mono fun _ _ h=>h.take)
 obtain ⟨z,hz⟩:∃z,z=2 ^ m:=⟨_,rfl⟩
 rw[←hz]at EC KP
 clear hz
 by_cases hz:z≤a
 ·rw[EC,if_pos (by omega)]
  clear EC hn
  go_enter Tryz.func153,Tryz.ntmps153
  go_wp2_with fail
  refine K.out.mono ?_
  rintro _ w1 ⟨_,rfl,hq1,rfl⟩
  go_wp2_with fail
  refine (KP.out _).mono ?_
  rintro _ w2 ⟨_,rfl,hq2,rfl⟩
  go_wp2
  go_ret
  exact .fin rfl (hq1.trans hq2)
 ·rw[EC,if_neg (by omega)]
  clear EC hn
  go_enter Tryz.func153,Tryz.ntmps153
  go_wp2_with fail
  refine K.out.mono ?_
  rintro _ w1 ⟨_,rfl,hq1,rfl⟩
  go_wp2_with fail
  refine (KP.out _).mono ?_
  rintro _ w2 ⟨_,rfl,hq2,rfl⟩
  go_wp2
  go_ret
  exact .fin rfl (hq1.trans hq2)
theorem zeK (w:World) (n s:Int):Calls Tryz.prog 150 #[.int .i64 n,.int .i64 s] w (QuietP w (.int .i64 (checkP n s))):=by
 have K:=zhd ((zcq w n).mono fun _ _ h=>h.take)
 by_cases hn:n<1∨5<n
 ·rw[show checkP n s=1 by unfold checkP;rw[if_pos hn]]
  rw[if_pos hn]at K
  clear hn
  go_enter Tryz.func150,Tryz.ntmps150
  go_wp2_with fail
  refine K.out.mono ?_
  rintro _ w1 ⟨_,rfl,hq1,rfl⟩
  go_wp2
  go_ret
  exact .fin rfl hq1
 rw[if_neg hn]at K
 obtain ⟨m,rfl⟩:∃m:Nat,n=m:=⟨n.toNat,by omega⟩
 have hm5:m≤5:=by omega
 have EC:checkP (m:Int) s=if s<0∨((2 ^ m:Nat):Int)≤s then 2 else 0:=by unfold checkP;rw[if_neg hn];rfl
 by_cases h0:s<0
 ·rw[EC,if_pos (.inl h0)]
  clear EC hn
  go_enter Tryz.func150,Tryz.ntmps150
  go_wp2_with fail
  refine K.out.mono ?_
  rintro _ w1 ⟨_,rfl,hq1,rfl⟩
  go_wp2
  go_ret
  exact .fin rfl hq1
 obtain ⟨a,rfl⟩:∃a:Nat,s=a:=⟨s.toNat,by omega⟩
 by_cases hz:2 ^ m≤a
 ·rw[EC,if_pos (by omega)]
  have d:=(zaO (a:=a) (n:=m)).trans (decide_eq_true hz)
  clear EC hn hz
  go_enter Tryz.func150,Tryz.ntmps150
  go_wp2_with fail
  refine K.out.mono ?_
  rintro _ w1 ⟨_,rfl,hq1,rfl⟩
  go_wp2
  go_ret
  exact .fin rfl hq1
 ·rw[EC,if_neg (by omega)]
  have d:=(zaO (a:=a) (n:=m)).trans (decide_eq_false hz)
  clear EC hn hz
  go_enter Tryz.func150,Tryz.ntmps150
  go_wp2_with fail
  refine K.out.mono ?_
  rintro _ w1 ⟨_,rfl,hq1,rfl⟩
  go_wp2
  go_ret
  exact .fin rfl hq1
theorem ze1 (w:World) (x:Int):Calls Tryz.prog 113 #[.int .i64 x] w (QuietP w (.bool false)):=by
 have e:(x !=x)=false:=by simp
 go_enter Tryz.func113,Tryz.ntmps113
 go_wp2
 go_ret
 exact .same
theorem zdd (w:World) (x y:Int):Calls Tryz.prog 87 #[.int .i64 x,.int .i64 y] w (QuietP w (.int .i64 (cmpI x y))):=by
 have K:=zhd fun W z=>((ze1 W z).mono fun _ _ h=>h.take)
 unfold cmpI
 by_cases h1:x<y
 ·rw[if_pos h1]
  go_enter Tryz.func87,Tryz.ntmps87
  go_wp2_with fail
  refine (K.out _ _).mono ?_
  rintro _ w1 ⟨_,rfl,hq1,rfl⟩
  go_wp2_with fail
  refine (K.out _ _).mono ?_
  rintro _ w2 ⟨_,rfl,hq2,rfl⟩
  go_wp2
  go_ret
  exact .fin rfl (hq1.trans hq2)
 by_cases h2:y<x
 ·rw[if_neg h1,if_pos h2]
  go_enter Tryz.func87,Tryz.ntmps87
  go_wp2_with fail
  refine (K.out _ _).mono ?_
  rintro _ w1 ⟨_,rfl,hq1,rfl⟩
  go_wp2_with fail
  refine (K.out _ _).mono ?_
  rintro _ w2 ⟨_,rfl,hq2,rfl⟩
  go_wp2
  go_ret
  exact .fin rfl (hq1.trans hq2)
 ·rw[if_neg h1,if_neg h2]
  go_enter Tryz.func87,Tryz.ntmps87
  go_wp2_with fail
  refine (K.out _ _).mono ?_
  rintro _ w1 ⟨_,rfl,hq1,rfl⟩
  go_wp2_with fail
  refine (K.out _ _).mono ?_
  rintro _ w2 ⟨_,rfl,hq2,rfl⟩
  go_wp2
  go_ret
  exact .fin rfl (hq1.trans hq2)
theorem zd3 {S S':Nat→Prop} {w:World} {v1 v2:Value} {l1 l2:List Int} (h1:Ints S w v1 l1) (h2:Ints S' w v2 l2):
  ∃a1 c1 a2 c2,v1=.slice a1 l1.length c1∧v2=.slice a2 l2.length c2∧l1.length≤9223372036854775807∧l2.length≤9223372036854775807∧
   Hid (∀k:Nat,k<l1.length→∀W:World,(Instr.indexAt 30 (.slice a1 l1.length c1) (.int .i64 k)).run Tryz.prog W=.ok (.pointer (some (adr a1 k))) W)∧
   Hid (∀k:Nat,k<l2.length→∀W:World,(Instr.indexAt 30 (.slice a2 l2.length c2) (.int .i64 k)).run Tryz.prog W=.ok (.pointer (some (adr a2 k))) W)∧
   Hid (∀k,k<l1.length→w.cell? (adr a1 k)=some (.int .i64 (nth l1 k)))∧Hid (∀k,k<l2.length→w.cell? (adr a2 k)=some (.int .i64 (nth l2 k))):=by
 obtain ⟨a1,c1,rfl,ha1,hl1,hm1,hc1,_⟩:=h1
 obtain ⟨a2,c2,rfl,ha2,hl2,hm2,hc2,_⟩:=h2
 unfold maxLen at hm1 hm2
 obtain ⟨i0,hi,hz0,hz1,hz2⟩:=info_parts zC
 exact ⟨a1,c1,a2,c2,rfl,rfl,by omega,by omega,zhd (zz Tryz.underlying30 hi hz1 ha1),zhd (zz Tryz.underlying30 hi hz1 ha2),zhd hc1,zhd hc2⟩
theorem zeR {S:Nat→Prop} {w:World} {v1:Value} {l1:List Int} (h1:Ints S w v1 l1):
  ∃a1 c1,v1=.slice a1 l1.length c1∧l1.length≤9223372036854775807∧
   Hid (∀k:Nat,k<l1.length→∀W:World,(Instr.indexAt 30 (.slice a1 l1.length c1) (.int .i64 k)).run Tryz.prog W=.ok (.pointer (some (adr a1 k))) W)∧
   Hid (∀k,k<l1.length→w.cell? (adr a1 k)=some (.int .i64 (nth l1 k))):=by
 obtain ⟨a1,c1,rfl,ha1,hl1,hm1,hc1,_⟩:=h1
 unfold maxLen at hm1
 obtain ⟨i0,hi,hz0,hz1,hz2⟩:=info_parts zC
 exact ⟨a1,c1,rfl,by omega,zhd (zz Tryz.underlying30 hi hz1 ha1),zhd hc1⟩
theorem zdE {a b:List Int} {k:Nat} (h:Zeros (fun i=>cmpI (nth a i) (nth b i)) k) (he:¬nth a k<nth b k) (he2:¬nth b k<nth a k):Zeros (fun i=>cmpI (nth a i) (nth b i)) (k+1):=
 h.next (by show cmpI _ _=0;unfold cmpI;rw[if_neg he,if_neg he2])
theorem YX {a b:List Int} {k:Nat} {x:Int} (h:Zeros (fun i=>cmpI (nth a i) (nth b i)) k) (ha:k<a.length) (hb:k<b.length) (hx:cmpI (nth a k) (nth b k)=x) (h0:x≠0):ordL a b=x:=by
 have e:lexN a b (min a.length b.length)=x:=h.stop hx h0 (by omega)
 unfold ordL
 rw[e,if_neg h0]
theorem qI {a b:List Int} {k:Nat} (h:Zeros (fun i=>cmpI (nth a i) (nth b i)) k) (hk:a.length≤k∨b.length≤k):ordL a b=cmpI (a.length:Int) (b.length:Int):=by
 have e:lexN a b (min a.length b.length)=0:=h.done (by omega)
 unfold ordL
 rw[if_pos e]
theorem xK {a b:Int} (h:a<b):cmpI a b= -1:=by unfold cmpI;rw[if_pos h]
theorem xO {a b:Int} (h:b<a):cmpI a b=1:=by unfold cmpI;rw[if_neg (by omega),if_pos h]
theorem Zk {a b:Int} (h:¬a<b) (h2:¬b<a):cmpI a b=0:=by unfold cmpI;rw[if_neg h,if_neg h2]
theorem qB {S S':Nat→Prop} {w:World} {v1 v2:Value} {l1 l2:List Int} (h1:Ints S w v1 l1) (h2:Ints S' w v2 l2):
  Calls Tryz.prog 142 #[v1,v2] w (QuietP w (.int .i64 (ordL l1 l2))):=by
 obtain ⟨a1,c1,a2,c2,rfl,rfl,hm1,hm2,Q1,Q2,C1,C2⟩:=zd3 h1 h2
 clear h1 h2
 go_enter Tryz.func142,Tryz.ntmps142
 go_wp2
 go_loopw [5] (fun i wr=>∃k:Nat,(k≤l1.length∧k≤l2.length)∧i=.int .i64 k∧QW w wr∧Hid (Zeros (fun i=>cmpI (nth l1 i) (nth l2 i)) k)) (fun i _=>l1.length - (intOf i).toNat)
 case atStart=>exact ⟨0,⟨Nat.zero_le _,Nat.zero_le _⟩,rfl,.refl _,zhd (.zero _)⟩
 case round=>
  obtain ⟨k,⟨hk1,hk2⟩,rfl,⟨m,rfl⟩,HZ⟩:=hrel
  by_cases hlt1:k<l1.length
  ·by_cases hlt2:k<l2.length
   ·have q1:=Q1.out k hlt1
    have q2:=Q2.out k hlt2
    have p1:=C1.out k hlt1
    have p2:=C2.out k hlt2
    obtain ⟨x,hx⟩:∃x,x=nth l1 k:=⟨_,rfl⟩
    obtain ⟨y,hy⟩:∃x,x=nth l2 k:=⟨_,rfl⟩
    have HX:=zhd hx
    have HY:=zhd hy
    rw[←hx]at p1
    rw[←hy]at p2
    clear hx hy
    by_cases hxy:x<y
    ·have HR:Hid (ordL l1 l2= -1):=zhd (YX HZ.out hlt1 hlt2 (by rw[←HX.out,←HY.out];exact xK hxy) (by decide))
     go_wp2
     go_quiet (fail)
     go_wp2
     go_ret
     rw[World.drewN_drewN]
     exact .of (zi HR.out.symm) _
    by_cases hyx:y<x
    ·have HR:Hid (ordL l1 l2=1):=zhd (YX HZ.out hlt1 hlt2 (by rw[←HX.out,←HY.out];exact xO hyx) (by decide))
     go_wp2
     go_quiet (fail)
     go_wp2
     go_quiet (fail)
     go_wp2
     go_ret
     exact .fin (zi HR.out.symm) ⟨_,by first | rfl | rw[World.drewN_drewN,World.drewN_drewN]⟩
    ·have HN:Hid (Zeros (fun i=>cmpI (nth l1 i) (nth l2 i)) (k+1)):=zhd (zdE HZ.out (by rw[←HX.out,←HY.out];exact hxy) (by rw[←HX.out,←HY.out];exact hyx))
     go_wp2
     go_quiet (fail)
     go_wp2
     go_quiet (fail)
     go_wp2
     go_roundw
     case rel=>exact ⟨k+1,⟨by omega,by omega⟩,by go_num,⟨_,by first | rfl | rw[World.drewN_drewN,World.drewN_drewN]⟩,HN⟩
     case measure=>simp[intOf];omega
   ·have HR:Hid (ordL l1 l2=1):=zhd (by rw[qI HZ.out (by omega)];exact xO (by omega))
    go_wp2
    go_ret
    exact .of (zi HR.out.symm) _
  ·by_cases hll:l1.length<l2.length
   ·have HR:Hid (ordL l1 l2= -1):=zhd (by rw[qI HZ.out (by omega)];exact xK (by omega))
    go_wp2
    go_ret
    exact .of (zi HR.out.symm) _
   ·have HR:Hid (ordL l1 l2=0):=zhd (by rw[qI HZ.out (by omega)];exact Zk (by omega) (by omega))
    go_wp2
    go_ret
    exact .of (zi HR.out.symm) _
theorem zd9 {S S':Nat→Prop} {w:World} {v1 v2:Value} {l1 l2:List Int} (h1:Ints S w v1 l1) (h2:Ints S' w v2 l2):
  Calls Tryz.prog 47 #[v1,v2] w (QuietP w (.int .i64 (ordL l1 l2))):=by
 obtain ⟨a1,c1,a2,c2,rfl,rfl,hm1,hm2,Q1,Q2,C1,C2⟩:=zd3 h1 h2
 have K:=zhd fun W x y=>((zdd W x y).mono fun _ _ h=>h.take)
 clear h1 h2
 go_enter Tryz.func47,Tryz.ntmps47
 go_wp2
 go_loopw [11] (fun i wr=>∃k:Nat,(k≤l1.length∧k≤l2.length)∧i=.int .i64 k∧QW w wr∧Hid (Zeros (fun i=>cmpI (nth l1 i) (nth l2 i)) k)) (fun i _=>l1.length - (intOf i).toNat)
 case atStart=>exact ⟨0,⟨Nat.zero_le _,Nat.zero_le _⟩,rfl,.refl _,zhd (.zero _)⟩
 case round=>
  obtain ⟨k,⟨hk1,hk2⟩,rfl,hQ,HZ⟩:=hrel
  by_cases hlt1:k<l1.length
  ·have q1:=Q1.out k hlt1
   have p1:=zm (C1.out k hlt1) hQ.ext
   by_cases hlt2:k<l2.length
   ·have q2:=Q2.out k hlt2
    have p2:=zm (C2.out k hlt2) hQ.ext
    obtain ⟨x,hx⟩:∃x,x=nth l1 k:=⟨_,rfl⟩
    obtain ⟨y,hy⟩:∃x,x=nth l2 k:=⟨_,rfl⟩
    have HX:=zhd hx
    have HY:=zhd hy
    rw[←hx]at p1
    rw[←hy]at p2
    clear hx hy
    go_wp2_with fail
    refine (K.out _ _ _).mono ?_
    rintro _ w1 ⟨_,rfl,hq1,rfl⟩
    obtain ⟨c,hc⟩:∃c,c=cmpI x y:=⟨_,rfl⟩
    rw[←hc]
    by_cases h0:c=0
    ·have HN:Hid (Zeros (fun i=>cmpI (nth l1 i) (nth l2 i)) (k+1)):=zhd (HZ.out.next (by show cmpI _ _=0;rw[←HX.out,←HY.out,←hc,h0]))
     subst h0
     clear hc
     go_wp2
     go_roundw
     case rel=>exact ⟨k+1,⟨by omega,by omega⟩,by go_num,hQ.trans hq1,HN⟩
     case measure=>simp[intOf];omega
    ·have HR:Hid (ordL l1 l2=c):=zhd (YX HZ.out hlt1 hlt2 (by rw[←HX.out,←HY.out,←hc]) h0)
     have e0:(c !=0)=true:=by simp[h0]
     clear hc h0
     go_wp2
     go_ret
     exact .fin (zi HR.out.symm) (hQ.trans hq1)
   ·have HR:Hid (ordL l1 l2=1):=zhd (by rw[qI HZ.out (by omega)];exact xO (by omega))
    go_wp2
    go_ret
    exact .fin (zi HR.out.symm) hQ
  ·by_cases hll:l1.length<l2.length
   ·have HR:Hid (ordL l1 l2= -1):=zhd (by rw[qI HZ.out (by omega)];exact xK (by omega))
    go_wp2
    go_ret
    exact .fin (zi HR.out.symm) hQ
   ·have HR:Hid (ordL l1 l2=0):=zhd (by rw[qI HZ.out (by omega)];exact Zk (by omega) (by omega))
    go_wp2
    go_ret
    exact .fin (zi HR.out.symm) hQ
def idxP {α:Type} (p:α→Bool) (l:List α):Int:=if l.any p=true then (l.findIdx p:Int) else -1
theorem Zw {α:Type} {p:α→Bool} {l:List α} (h:∀j (hj:j<l.length),p l[j]=false):idxP p l= -1:=by
 unfold idxP
 rw[if_neg]
 intro e
 obtain ⟨x,hx,hp⟩:=List.any_eq_true.1 e
 obtain ⟨j,hj,rfl⟩:=List.getElem_of_mem hx
 rw[h j hj]at hp
 cases hp
theorem Y2 {α:Type} {p:α→Bool} {l:List α} {k:Nat} (hk:k<l.length) (h:∀j (hj:j<k),p (l[j]'(by omega))=false) (h2:p l[k]=true):idxP p l=k:=by
 unfold idxP
 rw[if_pos (List.any_eq_true.2 ⟨l[k],List.getElem_mem hk,h2⟩)]
 congr 1
 exact (List.findIdx_eq hk).2 ⟨h2,fun j hj=>h j hj⟩
theorem YH {α:Type} {p:α→Bool} {l:List α}:0≤idxP p l↔l.any p=true:=by
 unfold idxP
 split
 ·rename_i h;exact ⟨fun _=>h,fun _=>by omega⟩
 ·rename_i h;exact ⟨fun h=>absurd h (by omega),fun e=>absurd e h⟩
theorem zd7 {α:Type} {p:α→Bool} {l:List α} (h:∀j (hj:j<l.length),p l[j]=false):l.any p=false:=by
 cases e:l.any p with
 | false=>rfl
 | true=>
  obtain ⟨x,hx,hp⟩:=List.any_eq_true.1 e
  obtain ⟨j,hj,rfl⟩:=List.getElem_of_mem hx
  rw[h j hj]at hp
  cases hp
theorem zan {α:Type} {p:α→Bool} {l:List α} {k:Nat} (hk:k<l.length) (h:p l[k]=true):l.any p=true:=List.any_eq_true.2 ⟨_,List.getElem_mem hk,h⟩
theorem XZ {S:Nat→Prop} {w:World} {va:Value} {l:List Int} (ha:Ints S w va l) {g:Nat} {c0:Value} (p:Int→Bool)
  (eg:∀args w,(callFunc g args).run Tryz.prog w=.ok (.enter g args) w)
  (hp:∀W,QW w W→∀k,(hk:k<l.length)→Calls Tryz.prog g #[.int .i64 (nth l k),c0] W (QuietP W (.bool (p l[k])))):
  Calls Tryz.prog 25 #[va,.func (.func g) #[] #[c0]] w (QuietP w (.int .i64 (idxP p l))):=by
 obtain ⟨a,cap,rfl,ad,l1,lm⟩:=ha.form
 unfold maxLen at lm
 obtain ⟨i0,hi,hz0,hz1,hz2⟩:=info_parts zC
 have HQA:=zhd (zz Tryz.underlying30 hi hz1 ad)
 have HC:=zhd (show∀j,j<l.length→w.cell? (adr a j)=some (.int .i64 (nth l j)) from by obtain ⟨_,_,e,_,_,_,hc,_⟩:=ha;simp only[Value.slice.injEq]at e;obtain ⟨rfl,_,_⟩:=e;exact hc)
 have HP:=zhd (fun W hW k hk=>(hp W hW k hk).mono fun _ _ h=>h.take)
 clear hi hz0 hz1 hz2 ha hp
 go_enter Tryz.func25,Tryz.ntmps25
 go_wp2
 go_loopw [8] (fun i wr=>∃k:Nat,k≤l.length∧i=.int .i64 k∧QW w wr∧Hid (∀j (hj:j<l.length),j<k→p l[j]=false)) (fun i _=>l.length - (intOf i).toNat)
 case atStart=>exact ⟨0,Nat.zero_le _,rfl,.refl _,zhd fun j _ hj=>absurd hj (by omega)⟩
 case round=>
  obtain ⟨k,hk,rfl,hQ,hB⟩:=hrel
  by_cases hlt:k<l.length
  ·have q:=HQA.out k hlt
   have cu:=zdB ad hQ.ext HC.out k hlt
   obtain ⟨x,hx⟩:∃x,x=nth l k:=⟨_,rfl⟩
   rw[←hx]at cu
   have KP:=zhd (HP.out wr hQ k hlt)
   rw[←hx]at KP
   clear hx
   obtain ⟨b,hb⟩:∃b,b=p l[k]:=⟨_,rfl⟩
   rw[←hb]at KP
   have HBB:=zhd hb
   clear hb
   go_wp2_with fail
   refine KP.out.mono ?_
   rintro _ w2 ⟨_,rfl,hq2,rfl⟩
   have hQ2:=hQ.trans hq2
   clear KP hQ hq2 cu
   cases b with
   | true=>
    have HR:=zhd (Y2 hlt (fun j hj=>hB.out j _ hj) HBB.out.symm)
    clear hB
    go_wp2
    go_ret
    exact .fin (zi HR.out.symm) hQ2
   | false=>
    have HN:Hid (∀j (hj:j<l.length),j<k+1→p l[j]=false):=zhd fun j hl hj=>by
     by_cases e:j=k
     ·subst e;exact HBB.out.symm
     ·exact hB.out j hl (by omega)
    clear hB
    go_wp2
    go_roundw
    case rel=>exact ⟨k+1,by omega,by go_num,hQ2,HN⟩
    case measure=>simp[intOf];omega
  ·obtain rfl:k=l.length:=by omega
   have HR:=zhd (Zw fun j hj=>hB.out j hj hj)
   clear hB
   go_wp2
   go_ret
   exact .fin (zi HR.out.symm) hQ
theorem ym {S:Nat→Prop} {w:World} {va:Value} {l:List Int} (ha:Ints S w va l) {g:Nat} {c0:Value} (p:Int→Bool)
  (eg:∀args w,(callFunc g args).run Tryz.prog w=.ok (.enter g args) w)
  (hp:∀W,QW w W→∀k,(hk:k<l.length)→Calls Tryz.prog g #[.int .i64 (nth l k),c0] W (QuietP W (.bool (p l[k])))):
  Calls Tryz.prog 11 #[va,.func (.func g) #[] #[c0]] w (QuietP w (.bool (l.any p))):=by
 have K:=zhd ((XZ ha p eg hp).mono fun _ _ h=>h.take)
 have HI:=zhd (YH (p:=p) (l:=l))
 obtain ⟨a,cap,rfl,_⟩:=ha.form
 clear hp ha eg
 obtain ⟨x,hx⟩:∃x,x=idxP p l:=⟨_,rfl⟩
 obtain ⟨b,hb⟩:∃b,b=l.any p:=⟨_,rfl⟩
 rw[←hx]at K HI
 rw[←hb]at HI ⊢
 clear hx hb
 go_enter Tryz.func11,Tryz.ntmps11
 go_wp2_with fail
 refine K.out.mono ?_
 rintro _ w2 ⟨_,rfl,hq2,rfl⟩
 clear K
 cases b with
 | true=>
  have h0:0≤x:=HI.out.2 rfl
  go_wp2
  go_ret
  exact .fin (by simp[h0]) hq2
 | false=>
  have h0:¬0≤x:=fun h=>by cases HI.out.1 h
  go_wp2
  go_ret
  exact .fin (by simp[h0]) hq2
theorem zad {S:Nat→Prop} {w:World} {va:Value} {l:List (List Int)} (ha:Lists S w va l) {g:Nat} {c0:Value} (p:List Int→Bool)
  (eg:∀args w,(callFunc g args).run Tryz.prog w=.ok (.enter g args) w)
  (hp:∀W,QW w W→∀k,(hk:k<l.length)→∀u,Ints S W u (nthL l k)→Calls Tryz.prog g #[u,c0] W (QuietP W (.bool (p l[k])))):
  Calls Tryz.prog 100 #[va,.func (.func g) #[] #[c0]] w (QuietP w (.int .i64 (idxP p l))):=by
 obtain ⟨a,cap,rfl,ad,l1,lm⟩:=ha.form
 unfold maxLen at lm
 obtain ⟨i0,hi,hz0,hz1,hz2⟩:=info_parts zF
 have HQA:=zhd (zz Tryz.underlying47 hi hz1 ad)
 have HA:=zhd ha
 have HP:=zhd (fun W hW k hk u hu=>(hp W hW k hk u hu).mono fun _ _ h=>h.take)
 clear hi hz0 hz1 hz2 ha hp
 go_enter Tryz.func100,Tryz.ntmps100
 go_wp2
 go_loopw [8] (fun i wr=>∃k:Nat,k≤l.length∧i=.int .i64 k∧QW w wr∧Hid (∀j (hj:j<l.length),j<k→p l[j]=false)) (fun i _=>l.length - (intOf i).toNat)
 case atStart=>exact ⟨0,Nat.zero_le _,rfl,.refl _,zhd fun j _ hj=>absurd hj (by omega)⟩
 case round=>
  obtain ⟨k,hk,rfl,hQ,hB⟩:=hrel
  by_cases hlt:k<l.length
  ·have q:=HQA.out k hlt
   obtain ⟨u,cu,iu⟩:=HA.out.at hQ.ext hlt
   have KP:=zhd (HP.out wr hQ k hlt u iu)
   clear iu
   obtain ⟨b,hb⟩:∃b,b=p l[k]:=⟨_,rfl⟩
   rw[←hb]at KP
   have HBB:=zhd hb
   clear hb
   go_wp2_with fail
   refine KP.out.mono ?_
   rintro _ w2 ⟨_,rfl,hq2,rfl⟩
   have hQ2:=hQ.trans hq2
   clear KP hQ hq2 cu
   cases b with
   | true=>
    have HR:=zhd (Y2 hlt (fun j hj=>hB.out j _ hj) HBB.out.symm)
    clear hB
    go_wp2
    go_ret
    exact .fin (zi HR.out.symm) hQ2
   | false=>
    have HN:Hid (∀j (hj:j<l.length),j<k+1→p l[j]=false):=zhd fun j hl hj=>by
     by_cases e:j=k
     ·subst e;exact HBB.out.symm
     ·exact hB.out j hl (by omega)
    clear hB
    go_wp2
    go_roundw
    case rel=>exact ⟨k+1,by omega,by go_num,hQ2,HN⟩
    case measure=>simp[intOf];omega
  ·obtain rfl:k=l.length:=by omega
   have HR:=zhd (Zw fun j hj=>hB.out j hj hj)
   clear hB
   go_wp2
   go_ret
   exact .fin (zi HR.out.symm) hQ
theorem Z1 {S:Nat→Prop} {w:World} {va:Value} {l:List (List Int)} (ha:Lists S w va l) {g:Nat} {c0:Value} (p:List Int→Bool)
  (eg:∀args w,(callFunc g args).run Tryz.prog w=.ok (.enter g args) w)
  (hp:∀W,QW w W→∀k,(hk:k<l.length)→∀u,Ints S W u (nthL l k)→Calls Tryz.prog g #[u,c0] W (QuietP W (.bool (p l[k])))):
  Calls Tryz.prog 70 #[va,.func (.func g) #[] #[c0]] w (QuietP w (.bool (l.any p))):=by
 have K:=zhd ((zad ha p eg hp).mono fun _ _ h=>h.take)
 have HI:=zhd (YH (p:=p) (l:=l))
 obtain ⟨a,cap,rfl,_⟩:=ha.form
 clear hp ha eg
 obtain ⟨x,hx⟩:∃x,x=idxP p l:=⟨_,rfl⟩
 obtain ⟨b,hb⟩:∃b,b=l.any p:=⟨_,rfl⟩
 rw[←hx]at K HI
 rw[←hb]at HI ⊢
 clear hx hb
 go_enter Tryz.func70,Tryz.ntmps70
 go_wp2_with fail
 refine K.out.mono ?_
 rintro _ w2 ⟨_,rfl,hq2,rfl⟩
 clear K
 cases b with
 | true=>
  have h0:0≤x:=HI.out.2 rfl
  go_wp2
  go_ret
  exact .fin (by simp[h0]) hq2
 | false=>
  have h0:¬0≤x:=fun h=>by cases HI.out.1 h
  go_wp2
  go_ret
  exact .fin (by simp[h0]) hq2
theorem XO {S:Nat→Prop} {w:World} {va:Value} {l:List (List Int)} (ha:Lists S w va l) {g:Nat} {c0 c1:Value} (p:List Int→Bool)
  (eg:∀args w,(callFunc g args).run Tryz.prog w=.ok (.enter g args) w)
  (hp:∀W,QW w W→∀k,(hk:k<l.length)→∀u,Ints S W u (nthL l k)→Calls Tryz.prog g #[u,c0,c1] W (QuietP W (.bool (p l[k])))):
  Calls Tryz.prog 100 #[va,.func (.func g) #[] #[c0,c1]] w (QuietP w (.int .i64 (idxP p l))):=by
 obtain ⟨a,cap,rfl,ad,l1,lm⟩:=ha.form
 unfold maxLen at lm
 obtain ⟨i0,hi,hz0,hz1,hz2⟩:=info_parts zF
 have HQA:=zhd (zz Tryz.underlying47 hi hz1 ad)
 have HA:=zhd ha
 have HP:=zhd (fun W hW k hk u hu=>(hp W hW k hk u hu).mono fun _ _ h=>h.take)
 clear hi hz0 hz1 hz2 ha hp
 go_enter Tryz.func100,Tryz.ntmps100
 go_wp2
 go_loopw [8] (fun i wr=>∃k:Nat,k≤l.length∧i=.int .i64 k∧QW w wr∧Hid (∀j (hj:j<l.length),j<k→p l[j]=false)) (fun i _=>l.length - (intOf i).toNat)
 case atStart=>exact ⟨0,Nat.zero_le _,rfl,.refl _,zhd fun j _ hj=>absurd hj (by omega)⟩
 case round=>
  obtain ⟨k,hk,rfl,hQ,hB⟩:=hrel
  by_cases hlt:k<l.length
  ·have q:=HQA.out k hlt
   obtain ⟨u,cu,iu⟩:=HA.out.at hQ.ext hlt
   have KP:=zhd (HP.out wr hQ k hlt u iu)
   clear iu
   obtain ⟨b,hb⟩:∃b,b=p l[k]:=⟨_,rfl⟩
   rw[←hb]at KP
   have HBB:=zhd hb
   clear hb
   go_wp2_with fail
   refine KP.out.mono ?_
   rintro _ w2 ⟨_,rfl,hq2,rfl⟩
   have hQ2:=hQ.trans hq2
   clear KP hQ hq2 cu
   cases b with
   | true=>
    have HR:=zhd (Y2 hlt (fun j hj=>hB.out j _ hj) HBB.out.symm)
    clear hB
    go_wp2
    go_ret
    exact .fin (zi HR.out.symm) hQ2
   | false=>
    have HN:Hid (∀j (hj:j<l.length),j<k+1→p l[j]=false):=zhd fun j hl hj=>by
     by_cases e:j=k
     ·subst e;exact HBB.out.symm
     ·exact hB.out j hl (by omega)
    clear hB
    go_wp2
    go_roundw
    case rel=>exact ⟨k+1,by omega,by go_num,hQ2,HN⟩
    case measure=>simp[intOf];omega
  ·obtain rfl:k=l.length:=by omega
   have HR:=zhd (Zw fun j hj=>hB.out j hj hj)
   clear hB
   go_wp2
   go_ret
   exact .fin (zi HR.out.symm) hQ
theorem ZU {S:Nat→Prop} {w:World} {va:Value} {l:List (List Int)} (ha:Lists S w va l) {g:Nat} {c0 c1:Value} (p:List Int→Bool)
  (eg:∀args w,(callFunc g args).run Tryz.prog w=.ok (.enter g args) w)
  (hp:∀W,QW w W→∀k,(hk:k<l.length)→∀u,Ints S W u (nthL l k)→Calls Tryz.prog g #[u,c0,c1] W (QuietP W (.bool (p l[k])))):
  Calls Tryz.prog 70 #[va,.func (.func g) #[] #[c0,c1]] w (QuietP w (.bool (l.any p))):=by
 have K:=zhd ((XO ha p eg hp).mono fun _ _ h=>h.take)
 have HI:=zhd (YH (p:=p) (l:=l))
 obtain ⟨a,cap,rfl,_⟩:=ha.form
 clear hp ha eg
 obtain ⟨x,hx⟩:∃x,x=idxP p l:=⟨_,rfl⟩
 obtain ⟨b,hb⟩:∃b,b=l.any p:=⟨_,rfl⟩
 rw[←hx]at K HI
 rw[←hb]at HI ⊢
 clear hx hb
 go_enter Tryz.func70,Tryz.ntmps70
 go_wp2_with fail
 refine K.out.mono ?_
 rintro _ w2 ⟨_,rfl,hq2,rfl⟩
 clear K
 cases b with
 | true=>
  have h0:0≤x:=HI.out.2 rfl
  go_wp2
  go_ret
  exact .fin (by simp[h0]) hq2
 | false=>
  have h0:¬0≤x:=fun h=>by cases HI.out.1 h
  go_wp2
  go_ret
  exact .fin (by simp[h0]) hq2
def badV (most x:Int):Bool:=decide (x<0)||decide (most≤x)
theorem za4 {v:List Int} {n most:Int} (h:(v.length:Int)≠n):vecE v n most=15:=by unfold vecE;rw[if_neg h]
theorem zbS {v:List Int} {n most:Int} (h:(v.length:Int)=n):vecE v n most=if v.any (badV most) then 2 else 0:=by unfold vecE;rw[if_pos h];rfl
theorem zb0 (w:World) (b:Nat) (x most:Int) (hc:w.cell? ⟨b,0,none⟩=some (.int .i64 most)):Calls Tryz.prog 86 #[.int .i64 x,.pointer (some ⟨b,0,none⟩)] w (QuietP w (.bool (badV most x))):=by
 unfold badV
 by_cases h0:x<0
 ·rw[decide_eq_true h0,Bool.true_or]
  go_enter Tryz.func86,Tryz.ntmps86
  go_wp2
  go_ret
  exact .same
 by_cases h1:most≤x
 ·rw[decide_eq_false h0,decide_eq_true h1,Bool.or_true]
  go_enter Tryz.func86,Tryz.ntmps86
  go_wp2
  go_ret
  exact .same
 ·rw[decide_eq_false h0,decide_eq_false h1,Bool.or_false]
  go_enter Tryz.func86,Tryz.ntmps86
  go_wp2
  go_ret
  exact .same
theorem xq {S:Nat→Prop} {w:World} {v:Value} {l:List Int} (h:Ints S w v l) (n most:Int):
  Calls Tryz.prog 46 #[v,.int .i64 n,.int .i64 most] w (Post w fun _ r=>r=.int .i64 (vecE l n most)):=by
 have ex:=zb w (.cells #[.int .i64 most] 3)
 have R:Row (w.alloc (.cells #[.int .i64 most] 3)) w.heap.size 3 [.int .i64 most]:=ze w [.int .i64 most] _
 have K:=zhd (ym (h.ext ex) (g:=86) (c0:=.pointer (some ⟨w.heap.size,0,none⟩)) (badV most) (by intro args w;rfl) fun W hW k hk=>by
  rw[←yq hk]
  exact zb0 W _ _ most ((R.ext hW.ext).cell rfl))
 obtain ⟨a,c,rfl,_⟩:=h.form
 clear h R
 by_cases hl:(l.length:Int)=n
 ·rw[zbS hl]
  have e:((l.length:Int) !=n)=false:=by simp[hl]
  obtain ⟨b,hb⟩:∃b,b=l.any (badV most):=⟨_,rfl⟩
  rw[←hb]at K ⊢
  clear hl hb
  cases b with
  | true=>
   go_enter Tryz.func46,Tryz.ntmps46
   go_wp2_with fail
   refine (K.out.mono fun _ _ h=>h.take).mono ?_
   rintro _ w2 ⟨_,rfl,hq2,rfl⟩
   go_wp2
   go_ret
   exact .mk (za ex hq2.ext) rfl
  | false=>
   go_enter Tryz.func46,Tryz.ntmps46
   go_wp2_with fail
   refine (K.out.mono fun _ _ h=>h.take).mono ?_
   rintro _ w2 ⟨_,rfl,hq2,rfl⟩
   go_wp2
   go_ret
   exact .mk (za ex hq2.ext) rfl
 ·rw[za4 hl]
  have e:((l.length:Int) !=n)=true:=by simpa using hl
  clear hl K
  go_enter Tryz.func46,Tryz.ntmps46
  go_wp2
  go_ret
  exact .mk ex rfl
theorem Zn {S:Nat→Prop} {w:World} {v:Value} {l:List Int} (h:Ints S w v l) (n most:Int):
  Calls Tryz.prog 141 #[v,.int .i64 n,.int .i64 most] w (QuietP w (.int .i64 (vecE l n most))):=by
 obtain ⟨a,c,rfl,hm,Q,C⟩:=zeR h
 clear h
 by_cases hl:(l.length:Int)=n
 ·rw[zbS hl]
  obtain ⟨r,hr⟩:∃r:Int,r=if l.any (badV most) then 2 else 0:=⟨_,rfl⟩
  rw[←hr]
  have HRR:=zhd hr
  have e:((l.length:Int) !=n)=false:=by simp[hl]
  have HN:=zhd hl
  clear hl hr
  go_enter Tryz.func141,Tryz.ntmps141
  go_wp2
  go_loopw [7] (fun i wr=>∃k:Nat,k≤l.length∧i=.int .i64 k∧QW w wr∧Hid (∀j (hj:j<l.length),j<k→badV most l[j]=false)) (fun i _=>l.length - (intOf i).toNat)
  case atStart=>exact ⟨0,Nat.zero_le _,rfl,.refl _,zhd fun j _ hj=>absurd hj (by omega)⟩
  case round=>
   obtain ⟨k,hk,rfl,hQ,hB⟩:=hrel
   have hn1:(l.length:Int)≤n:=by have:=HN.out;omega
   have hn2:n≤(l.length:Int):=by have:=HN.out;omega
   by_cases hlt:k<l.length
   ·have q:=Q.out k hlt
    have p:=zm (C.out k hlt) hQ.ext
    obtain ⟨x,hx⟩:∃x,x=nth l k:=⟨_,rfl⟩
    rw[←hx]at p
    have HX:Hid (badV most l[k]=badV most x):=zhd (by rw[hx,yq hlt])
    clear hx
    by_cases h0:x<0
    ·have HR:Hid (r=2):=zhd (by rw[HRR.out,zan hlt (by rw[HX.out];simp[badV,h0])];rfl)
     go_wp2
     go_ret
     exact .fin (zi HR.out.symm) hQ
    by_cases h1:most≤x
    ·have HR:Hid (r=2):=zhd (by rw[HRR.out,zan hlt (by rw[HX.out];simp[badV,h1])];rfl)
     go_wp2
     go_ret
     exact .fin (zi HR.out.symm) hQ
    ·have HN:Hid (∀j (hj:j<l.length),j<k+1→badV most l[j]=false):=zhd fun j hl hj=>by
      by_cases e:j=k
      ·subst e;rw[HX.out];simp[badV];omega
      ·exact hB.out j hl (by omega)
     go_wp2
     go_roundw
     case rel=>exact ⟨k+1,by omega,by go_num,hQ,HN⟩
     case measure=>simp[intOf];omega
   ·obtain rfl:k=l.length:=by omega
    have HR:Hid (r=0):=zhd (by rw[HRR.out,zd7 fun j hj=>hB.out j hj hj];rfl)
    go_wp2
    go_ret
    exact .fin (zi HR.out.symm) hQ
 ·rw[za4 hl]
  have e:((l.length:Int) !=n)=true:=by simpa using hl
  clear hl
  go_enter Tryz.func141,Tryz.ntmps141
  go_wp2
  go_ret
  exact .same
theorem zel {l:List (List Int)} {v:List Int}:l.any (fun x=>decide (ordL x v=0))=decide (v∈l):=by
 rw[Bool.eq_iff_iff,List.any_eq_true,decide_eq_true_eq]
 constructor
 ·rintro ⟨x,hx,h⟩
  have:=ZD.1 (of_decide_eq_true h)
  exact this▸hx
 ·intro h;exact ⟨v,h,decide_eq_true (ZD.2 rfl)⟩
theorem zdk {l:List (List Int)} {v:List Int}:l.any (fun x=>decide (x=v))=decide (v∈l):=by
 rw[Bool.eq_iff_iff,List.any_eq_true,decide_eq_true_eq]
 constructor
 ·rintro ⟨x,hx,h⟩
  have:=of_decide_eq_true h
  exact this▸hx
 ·intro h;exact ⟨v,h,decide_eq_true rfl⟩
theorem zd5 {S S':Nat→Prop} {w:World} {v u:Value} {l:List (List Int)} {x:List Int} (h:Lists S w v l) (hx:Ints S' w u x):
  Calls Tryz.prog 143 #[v,u] w (QuietP w (.bool (decide (x∈l)))):=by
 rw[←zel]
 obtain ⟨a,cap,rfl,ad,l1,lm⟩:=h.form
 unfold maxLen at lm
 obtain ⟨i0,hi,hz0,hz1,hz2⟩:=info_parts zF
 have HQA:=zhd (zz Tryz.underlying47 hi hz1 ad)
 have HA:=zhd h
 have HX:=zhd hx
 clear hi hz0 hz1 hz2 h hx
 go_enter Tryz.func143,Tryz.ntmps143
 go_wp2
 go_loopw [5] (fun i wr=>∃k:Nat,k≤l.length∧i=.int .i64 k∧QW w wr∧Hid (∀j (hj:j<l.length),j<k→decide (ordL l[j] x=0)=false)) (fun i _=>l.length - (intOf i).toNat)
 case atStart=>exact ⟨0,Nat.zero_le _,rfl,.refl _,zhd fun j _ hj=>absurd hj (by omega)⟩
 case round=>
  obtain ⟨k,hk,rfl,hQ,hB⟩:=hrel
  by_cases hlt:k<l.length
  ·have q:=HQA.out k hlt
   obtain ⟨u1,cu,iu⟩:=HA.out.at hQ.ext hlt
   rw[zM hlt]at iu
   have KP:=zhd ((qB iu (HX.out.ext hQ.ext)).mono fun _ _ h=>h.take)
   clear iu
   obtain ⟨b,hb⟩:∃b,b=ordL l[k] x:=⟨_,rfl⟩
   rw[←hb]at KP
   have HBB:=zhd hb
   clear hb
   go_wp2_with fail
   refine KP.out.mono ?_
   rintro _ w2 ⟨_,rfl,hq2,rfl⟩
   have hQ2:=hQ.trans hq2
   clear KP hQ hq2 cu
   by_cases h0:b=0
   ·have HR:=zhd (zan (p:=fun y=>decide (ordL y x=0)) hlt (by simp[←HBB.out,h0]))
    subst h0
    clear hB
    go_wp2
    go_ret
    exact .fin (zv HR.out.symm) hQ2
   ·have HN:Hid (∀j (hj:j<l.length),j<k+1→decide (ordL l[j] x=0)=false):=zhd fun j hl hj=>by
     by_cases e:j=k
     ·subst e;rw[←HBB.out];exact decide_eq_false h0
     ·exact hB.out j hl (by omega)
    have e0:(b==0)=false:=by simp[h0]
    clear hB h0
    go_wp2
    go_roundw
    case rel=>exact ⟨k+1,by omega,by go_num,hQ2,HN⟩
    case measure=>simp[intOf];omega
  ·obtain rfl:k=l.length:=by omega
   have HR:=zhd (zd7 (p:=fun y=>decide (ordL y x=0)) fun j hj=>hB.out j hj hj)
   clear hB
   go_wp2
   go_ret
   exact .fin (zv HR.out.symm) hQ
theorem zeP {S S':Nat→Prop} {w:World} {u v:Value} {x y:List Int} (hu:Ints S w u x) (hv:Ints S' w v y) {b:Nat} (hc:w.cell? ⟨b,0,none⟩=some v):Calls Tryz.prog 114 #[u,.pointer (some ⟨b,0,none⟩)] w (QuietP w (.bool (decide (x=y)))):=by
 have K:=zhd ((Zp hu hv).mono fun _ _ h=>h.take)
 obtain ⟨a1,c1,rfl,_⟩:=hu.form
 obtain ⟨a2,c2,rfl,_⟩:=hv.form
 clear hu hv
 go_enter Tryz.func114,Tryz.ntmps114
 go_wp2_with fail
 refine K.out.mono ?_
 rintro _ w2 ⟨_,rfl,hq2,rfl⟩
 go_wp2
 go_ret
 exact .fin rfl hq2
theorem zbD {S S':Nat→Prop} {w:World} {v u:Value} {l:List (List Int)} {x:List Int} (h:Lists S w v l) (hx:Ints S' w u x):
  Calls Tryz.prog 89 #[v,u] w (Post w fun _ r=>r=.bool (decide (x∈l))):=by
 rw[←zdk]
 have ex:=zb w (.cells #[u] 30)
 have R:Row (w.alloc (.cells #[u] 30)) w.heap.size 30 [u]:=ze w [u] _
 have hx1:=hx.ext ex
 have K:=zhd ((Z1 (h.ext ex) (g:=114) (c0:=.pointer (some ⟨w.heap.size,0,none⟩)) (fun y=>decide (y=x)) (by intro args w;rfl) fun W hW k hk u1 hu1=>by
  rw[←zM hk]
  exact zeP hu1 (hx1.ext hW.ext) ((R.ext hW.ext).cell rfl)).mono fun _ _ h=>h.take)
 obtain ⟨a,c,rfl,_⟩:=h.form
 obtain ⟨a2,c2,rfl,_⟩:=hx.form
 clear h hx hx1 R
 go_enter Tryz.func89,Tryz.ntmps89
 go_wp2_with fail
 refine K.out.mono ?_
 rintro _ w2 ⟨_,rfl,hq2,rfl⟩
 go_wp2
 go_ret
 exact .mk (za ex hq2.ext) rfl
theorem Zx {S:Nat→Prop} {w:World} {v:Value} {l:List (List Int)} (h:Lists S w v l) {k:Nat} (hk:k<l.length):
  Calls Tryz.prog 88 #[v,.int .i64 k] w (QuietP w (.bool (unord l k))):=by
 obtain ⟨a,cap,rfl,ad,l1,lm⟩:=h.form
 unfold maxLen at lm
 obtain ⟨i0,hi,hz0,hz1,hz2⟩:=info_parts zF
 have HQA:=zhd (zz Tryz.underlying47 hi hz1 ad)
 clear hi hz0 hz1 hz2
 by_cases h0:0<k
 ·obtain ⟨j,hj⟩:∃j,j=k - 1:=⟨_,rfl⟩
  have q1:=HQA.out j (by omega)
  have q2:=HQA.out k hk
  obtain ⟨u1,cu1,iu1⟩:=h.at (.refl _ _) (show j<l.length by omega)
  obtain ⟨u2,cu2,iu2⟩:=h.at (.refl _ _) hk
  have eu:unord l k=decide (0≤ordL (nthL l j) (nthL l k)):=by unfold unord;rw[←hj];simp[h0]
  rw[eu]
  have K:∀n,Calls Tryz.prog 47 #[u1,u2] (w.drewN n) (QuietP (w.drewN n) (.int .i64 (ordL (nthL l j) (nthL l k)))):=fun n=>zd9 (iu1.drewN n) (iu2.drewN n)
  obtain ⟨x,hx⟩:∃x,x=ordL (nthL l j) (nthL l k):=⟨_,rfl⟩
  rw[←hx]at K ⊢
  have KH:=zhd K
  have w1:IntKind.i64.wrap ((k:Int) - 1)=j:=by rw[IntKind.wrap_i64];omega
  have w2:decide ((0:Int)<(k:Int))=true:=decide_eq_true (by omega)
  have w3:decide (0<k)=true:=decide_eq_true h0
  have w4:(0:Int)≤(j:Int):=by omega
  have w5:(j:Int)<(l.length:Int):=by omega
  have w6:(k:Int)<(l.length:Int):=by omega
  clear hj
  clear hx eu h K iu1 iu2
  by_cases hx0:0≤x
  ·rw[decide_eq_true hx0]
   go_enter Tryz.func88,Tryz.ntmps88
   go_wp2
   go_quiet ((go_at_call 47;exact zr (KH.out _)))
   go_wp2
   go_ret
   exact .of (by simp[hx0]) _
  ·rw[decide_eq_false hx0]
   go_enter Tryz.func88,Tryz.ntmps88
   go_wp2
   go_quiet ((go_at_call 47;exact zr (KH.out _)))
   go_wp2
   go_ret
   exact .of (by simp[hx0]) _
 ·obtain rfl:k=0:=by omega
  have eu:unord l 0=false:=by unfold unord;simp
  rw[eu]
  have hj0:decide ((0:Int)<((0:Nat):Int))=false:=by simp
  clear h eu
  go_enter Tryz.func88,Tryz.ntmps88
  go_wp2
  go_quiet (fail)
  go_wp2
  go_ret
  exact .of rfl _
end Go.Proofs.YtjpakklplhabdaaGreat
