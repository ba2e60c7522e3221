/- Part of the proof that the laws answer true for every input. -/
import Derived.Test.YtaijafjfafbcfaaGreatPXb02
import Derived.Test.YtaijafjfafbcfaaGreatPXb03
set_option linter.unusedSimpArgs false
set_option linter.unnecessarySimpa false
set_option linter.unusedVariables false
set_option maxRecDepth 100000
set_option maxHeartbeats 40000000
namespace Go.Proofs.YtaijafjfafbcfaaGreat
open Go.RowKit
theorem rprocs_q (w:World) (n:Int):Calls Tryz.prog 148 #[.int .i64 n] w (QuietP w (.int .i64 (if n<1∨5<n then 1 else 0))):=by
 by_cases h1:n<1
 ·rw[if_pos (.inl h1)]
  go_enter Tryz.func148,Tryz.ntmps148
  go_wp2
  go_ret
  exact .same
 by_cases h5:5<n
 ·rw[if_pos (.inr h5)]
  go_enter Tryz.func148,Tryz.ntmps148
  go_wp2
  go_ret
  exact .same
 ·rw[if_neg (by omega)]
  go_enter Tryz.func148,Tryz.ntmps148
  go_wp2
  go_ret
  exact .same
theorem pprocsI_q (w:World) (n:Int):Calls Tryz.prog 160 #[.int .i64 n] w (QuietP w (.int .i64 (if n<1∨5<n then 1 else 0))):=by
 by_cases h1:n<1
 ·rw[if_pos (.inl h1)]
  go_enter Tryz.func160,Tryz.ntmps160
  go_wp2
  go_ret
  exact .same
 by_cases h5:5<n
 ·rw[if_pos (.inr h5)]
  go_enter Tryz.func160,Tryz.ntmps160
  go_wp2
  go_ret
  exact .same
 ·rw[if_neg (by omega)]
  go_enter Tryz.func160,Tryz.ntmps160
  go_wp2
  go_ret
  exact .same
theorem shr_zero {a n:Nat}:(((a:Int) / 2 ^ n) !=0)=decide (2 ^ n≤a):=by
 have e:((a:Int) / 2 ^ n)=((a / 2 ^ n:Nat):Int):=by simp
 rw[e]
 have hp:0<2 ^ n:=Nat.pow_pos (by decide)
 by_cases h:2 ^ n≤a
 ·have h0:0<a / 2 ^ n:=Nat.div_pos h hp
  rw[decide_eq_true h,bne_iff_ne]
  exact fun h1=>absurd (Int.natCast_eq_zero.1 h1) (by exact Nat.ne_of_gt h0)
 ·have h0:a / 2 ^ n=0:=Nat.div_eq_of_lt (by exact Nat.lt_of_not_le h)
  rw[decide_eq_false h,h0];rfl
theorem rchk_q (w:World) (n s:Int):Calls Tryz.prog 137 #[.int .i64 n,.int .i64 s] w (QuietP w (.int .i64 (checkP n s))):=by
 have K:=Lib.hid ((rprocs_q w n).mono fun _ _ h=>h.take)
 by_cases hn:n<1∨5<n
 ·rw[show checkP n s=1 by unfold checkP;rw[if_pos hn]]
  rw[if_pos hn]at K
  clear hn
  go_enter Tryz.func137,Tryz.ntmps137
  go_wp2_with fail
  refine K.out.mono ?_
  rintro _ w1 ⟨_,rfl,hq1,rfl⟩
  go_wp2
  go_ret
  exact .fin rfl hq1
 rw[if_neg hn]at K
 obtain ⟨m,rfl⟩:∃m:Nat,n=m:=⟨n.toNat,by omega⟩
 have hm5:m≤5:=by omega
 have EC:checkP (m:Int) s=if s<0∨((2 ^ m:Nat):Int)≤s then 2 else 0:=by unfold checkP;rw[if_neg hn];rfl
 by_cases h0:s<0
 ·rw[EC,if_pos (.inl h0)]
  clear EC hn
  go_enter Tryz.func137,Tryz.ntmps137
  go_wp2_with fail
  refine K.out.mono ?_
  rintro _ w1 ⟨_,rfl,hq1,rfl⟩
  go_wp2
  go_ret
  exact .fin rfl hq1
 obtain ⟨a,rfl⟩:∃a:Nat,s=a:=⟨s.toNat,by omega⟩
 have KP:=Lib.hid fun W=>((power_quiet W hm5).mono fun _ _ h=>h.take)
 obtain ⟨z,hz⟩:∃z,z=2 ^ m:=⟨_,rfl⟩
 rw[←hz]at EC KP
 clear hz
 by_cases hz:z≤a
 ·rw[EC,if_pos (by omega)]
  clear EC hn
  go_enter Tryz.func137,Tryz.ntmps137
  go_wp2_with fail
  refine K.out.mono ?_
  rintro _ w1 ⟨_,rfl,hq1,rfl⟩
  go_wp2_with fail
  refine (KP.out _).mono ?_
  rintro _ w2 ⟨_,rfl,hq2,rfl⟩
  go_wp2
  go_ret
  exact .fin rfl (hq1.trans hq2)
 ·rw[EC,if_neg (by omega)]
  clear EC hn
  go_enter Tryz.func137,Tryz.ntmps137
  go_wp2_with fail
  refine K.out.mono ?_
  rintro _ w1 ⟨_,rfl,hq1,rfl⟩
  go_wp2_with fail
  refine (KP.out _).mono ?_
  rintro _ w2 ⟨_,rfl,hq2,rfl⟩
  go_wp2
  go_ret
  exact .fin rfl (hq1.trans hq2)
theorem pchk_q (w:World) (n s:Int):Calls Tryz.prog 154 #[.int .i64 n,.int .i64 s] w (QuietP w (.int .i64 (checkP n s))):=by
 have K:=Lib.hid ((pprocsI_q w n).mono fun _ _ h=>h.take)
 by_cases hn:n<1∨5<n
 ·rw[show checkP n s=1 by unfold checkP;rw[if_pos hn]]
  rw[if_pos hn]at K
  clear hn
  go_enter Tryz.func154,Tryz.ntmps154
  go_wp2_with fail
  refine K.out.mono ?_
  rintro _ w1 ⟨_,rfl,hq1,rfl⟩
  go_wp2
  go_ret
  exact .fin rfl hq1
 rw[if_neg hn]at K
 obtain ⟨m,rfl⟩:∃m:Nat,n=m:=⟨n.toNat,by omega⟩
 have hm5:m≤5:=by omega
 have EC:checkP (m:Int) s=if s<0∨((2 ^ m:Nat):Int)≤s then 2 else 0:=by unfold checkP;rw[if_neg hn];rfl
 by_cases h0:s<0
 ·rw[EC,if_pos (.inl h0)]
  clear EC hn
  go_enter Tryz.func154,Tryz.ntmps154
  go_wp2_with fail
  refine K.out.mono ?_
  rintro _ w1 ⟨_,rfl,hq1,rfl⟩
  go_wp2
  go_ret
  exact .fin rfl hq1
 obtain ⟨a,rfl⟩:∃a:Nat,s=a:=⟨s.toNat,by omega⟩
 by_cases hz:2 ^ m≤a
 ·rw[EC,if_pos (by omega)]
  have d:=(shr_zero (a:=a) (n:=m)).trans (decide_eq_true hz)
  clear EC hn hz
  go_enter Tryz.func154,Tryz.ntmps154
  go_wp2_with fail
  refine K.out.mono ?_
  rintro _ w1 ⟨_,rfl,hq1,rfl⟩
  go_wp2
  go_ret
  exact .fin rfl hq1
 ·rw[EC,if_neg (by omega)]
  have d:=(shr_zero (a:=a) (n:=m)).trans (decide_eq_false hz)
  clear EC hn hz
  go_enter Tryz.func154,Tryz.ntmps154
  go_wp2_with fail
  refine K.out.mono ?_
  rintro _ w1 ⟨_,rfl,hq1,rfl⟩
  go_wp2
  go_ret
  exact .fin rfl hq1
theorem nan_q (w:World) (x:Int):Calls Tryz.prog 150 #[.int .i64 x] w (QuietP w (.bool false)):=by
 have e:(x !=x)=false:=by simp
 go_enter Tryz.func150,Tryz.ntmps150
 go_wp2
 go_ret
 exact .same
theorem cmp_q (w:World) (x y:Int):Calls Tryz.prog 141 #[.int .i64 x,.int .i64 y] w (QuietP w (.int .i64 (cmpI x y))):=by
 have K:=Lib.hid fun W z=>((nan_q W z).mono fun _ _ h=>h.take)
 unfold cmpI
 by_cases h1:x<y
 ·rw[if_pos h1]
  go_enter Tryz.func141,Tryz.ntmps141
  go_wp2_with fail
  refine (K.out _ _).mono ?_
  rintro _ w1 ⟨_,rfl,hq1,rfl⟩
  go_wp2_with fail
  refine (K.out _ _).mono ?_
  rintro _ w2 ⟨_,rfl,hq2,rfl⟩
  go_wp2
  go_ret
  exact .fin rfl (hq1.trans hq2)
 by_cases h2:y<x
 ·rw[if_neg h1,if_pos h2]
  go_enter Tryz.func141,Tryz.ntmps141
  go_wp2_with fail
  refine (K.out _ _).mono ?_
  rintro _ w1 ⟨_,rfl,hq1,rfl⟩
  go_wp2_with fail
  refine (K.out _ _).mono ?_
  rintro _ w2 ⟨_,rfl,hq2,rfl⟩
  go_wp2
  go_ret
  exact .fin rfl (hq1.trans hq2)
 ·rw[if_neg h1,if_neg h2]
  go_enter Tryz.func141,Tryz.ntmps141
  go_wp2_with fail
  refine (K.out _ _).mono ?_
  rintro _ w1 ⟨_,rfl,hq1,rfl⟩
  go_wp2_with fail
  refine (K.out _ _).mono ?_
  rintro _ w2 ⟨_,rfl,hq2,rfl⟩
  go_wp2
  go_ret
  exact .fin rfl (hq1.trans hq2)
theorem two_at {S S':Nat→Prop} {w:World} {v1 v2:Value} {l1 l2:List Int} (h1:Ints S w v1 l1) (h2:Ints S' w v2 l2):
  ∃a1 c1 a2 c2,v1=.slice a1 l1.length c1∧v2=.slice a2 l2.length c2∧l1.length≤9223372036854775807∧l2.length≤9223372036854775807∧
   Hid (∀k:Nat,k<l1.length→∀W:World,(Instr.indexAt 44 (.slice a1 l1.length c1) (.int .i64 k)).run Tryz.prog W=.ok (.pointer (some (adr a1 k))) W)∧
   Hid (∀k:Nat,k<l2.length→∀W:World,(Instr.indexAt 44 (.slice a2 l2.length c2) (.int .i64 k)).run Tryz.prog W=.ok (.pointer (some (adr a2 k))) W)∧
   Hid (∀k,k<l1.length→w.cell? (adr a1 k)=some (.int .i64 (nth l1 k)))∧Hid (∀k,k<l2.length→w.cell? (adr a2 k)=some (.int .i64 (nth l2 k))):=by
 obtain ⟨a1,c1,rfl,ha1,hl1,hm1,hc1,_⟩:=h1
 obtain ⟨a2,c2,rfl,ha2,hl2,hm2,hc2,_⟩:=h2
 unfold maxLen at hm1 hm2
 obtain ⟨i0,hi,hz0,hz1,hz2⟩:=info_parts info_int
 exact ⟨a1,c1,a2,c2,rfl,rfl,by omega,by omega,Lib.hid (idx_one Tryz.underlying44 hi hz1 ha1),Lib.hid (idx_one Tryz.underlying44 hi hz1 ha2),Lib.hid hc1,Lib.hid hc2⟩
theorem one_at {S:Nat→Prop} {w:World} {v1:Value} {l1:List Int} (h1:Ints S w v1 l1):
  ∃a1 c1,v1=.slice a1 l1.length c1∧l1.length≤9223372036854775807∧
   Hid (∀k:Nat,k<l1.length→∀W:World,(Instr.indexAt 44 (.slice a1 l1.length c1) (.int .i64 k)).run Tryz.prog W=.ok (.pointer (some (adr a1 k))) W)∧
   Hid (∀k,k<l1.length→w.cell? (adr a1 k)=some (.int .i64 (nth l1 k))):=by
 obtain ⟨a1,c1,rfl,ha1,hl1,hm1,hc1,_⟩:=h1
 unfold maxLen at hm1
 obtain ⟨i0,hi,hz0,hz1,hz2⟩:=info_parts info_int
 exact ⟨a1,c1,rfl,by omega,Lib.hid (idx_one Tryz.underlying44 hi hz1 ha1),Lib.hid hc1⟩
theorem lex_next {a b:List Int} {k:Nat} (h:Zeros (fun i=>cmpI (nth a i) (nth b i)) k) (he:¬nth a k<nth b k) (he2:¬nth b k<nth a k):Zeros (fun i=>cmpI (nth a i) (nth b i)) (k+1):=
 h.next (by show cmpI _ _=0;unfold cmpI;rw[if_neg he,if_neg he2])
theorem ord_stop {a b:List Int} {k:Nat} {x:Int} (h:Zeros (fun i=>cmpI (nth a i) (nth b i)) k) (ha:k<a.length) (hb:k<b.length) (hx:cmpI (nth a k) (nth b k)=x) (h0:x≠0):ordL a b=x:=by
 have e:lexN a b (min a.length b.length)=x:=h.stop hx h0 (by omega)
 unfold ordL
 rw[e,if_neg h0]
theorem ord_done {a b:List Int} {k:Nat} (h:Zeros (fun i=>cmpI (nth a i) (nth b i)) k) (hk:a.length≤k∨b.length≤k):ordL a b=cmpI (a.length:Int) (b.length:Int):=by
 have e:lexN a b (min a.length b.length)=0:=h.done (by omega)
 unfold ordL
 rw[if_pos e]
theorem cmpI_lt {a b:Int} (h:a<b):cmpI a b= -1:=by unfold cmpI;rw[if_pos h]
theorem cmpI_gt {a b:Int} (h:b<a):cmpI a b=1:=by unfold cmpI;rw[if_neg (by omega),if_pos h]
theorem cmpI_eq {a b:Int} (h:¬a<b) (h2:¬b<a):cmpI a b=0:=by unfold cmpI;rw[if_neg h,if_neg h2]
theorem order_q {S S':Nat→Prop} {w:World} {v1 v2:Value} {l1 l2:List Int} (h1:Ints S w v1 l1) (h2:Ints S' w v2 l2):
  Calls Tryz.prog 122 #[v1,v2] w (QuietP w (.int .i64 (ordL l1 l2))):=by
 obtain ⟨a1,c1,a2,c2,rfl,rfl,hm1,hm2,Q1,Q2,C1,C2⟩:=two_at h1 h2
 clear h1 h2
 go_enter Tryz.func122,Tryz.ntmps122
 go_wp2
 go_loopw [5] (fun i wr=>∃k:Nat,(k≤l1.length∧k≤l2.length)∧i=.int .i64 k∧QW w wr∧Hid (Zeros (fun i=>cmpI (nth l1 i) (nth l2 i)) k)) (fun i _=>l1.length - (intOf i).toNat)
 case atStart=>exact ⟨0,⟨Nat.zero_le _,Nat.zero_le _⟩,rfl,.refl _,Lib.hid (.zero _)⟩
 case round=>
  obtain ⟨k,⟨hk1,hk2⟩,rfl,⟨m,rfl⟩,HZ⟩:=hrel
  by_cases hlt1:k<l1.length
  ·by_cases hlt2:k<l2.length
   ·have q1:=Q1.out k hlt1
    have q2:=Q2.out k hlt2
    have p1:=C1.out k hlt1
    have p2:=C2.out k hlt2
    obtain ⟨x,hx⟩:∃x,x=nth l1 k:=⟨_,rfl⟩
    obtain ⟨y,hy⟩:∃x,x=nth l2 k:=⟨_,rfl⟩
    have HX:=Lib.hid hx
    have HY:=Lib.hid hy
    rw[←hx]at p1
    rw[←hy]at p2
    clear hx hy
    by_cases hxy:x<y
    ·have HR:Hid (ordL l1 l2= -1):=Lib.hid (ord_stop HZ.out hlt1 hlt2 (by rw[←HX.out,←HY.out];exact cmpI_lt hxy) (by decide))
     go_wp2
     go_quiet (fail)
     go_wp2
     go_ret
     rw[World.drewN_drewN]
     exact .of (int_eq HR.out.symm) _
    by_cases hyx:y<x
    ·have HR:Hid (ordL l1 l2=1):=Lib.hid (ord_stop HZ.out hlt1 hlt2 (by rw[←HX.out,←HY.out];exact cmpI_gt hyx) (by decide))
     go_wp2
     go_quiet (fail)
     go_wp2
     go_quiet (fail)
     go_wp2
     go_ret
     exact .fin (int_eq HR.out.symm) ⟨_,by first | rfl | rw[World.drewN_drewN,World.drewN_drewN]⟩
    ·have HN:Hid (Zeros (fun i=>cmpI (nth l1 i) (nth l2 i)) (k+1)):=Lib.hid (lex_next HZ.out (by rw[←HX.out,←HY.out];exact hxy) (by rw[←HX.out,←HY.out];exact hyx))
     go_wp2
     go_quiet (fail)
     go_wp2
     go_quiet (fail)
     go_wp2
     go_roundw
     case rel=>exact ⟨k+1,⟨by omega,by omega⟩,by go_num,⟨_,by first | rfl | rw[World.drewN_drewN,World.drewN_drewN]⟩,HN⟩
     case measure=>simp[intOf];omega
   ·have HR:Hid (ordL l1 l2=1):=Lib.hid (by rw[ord_done HZ.out (by omega)];exact cmpI_gt (by omega))
    go_wp2
    go_ret
    exact .of (int_eq HR.out.symm) _
  ·by_cases hll:l1.length<l2.length
   ·have HR:Hid (ordL l1 l2= -1):=Lib.hid (by rw[ord_done HZ.out (by omega)];exact cmpI_lt (by omega))
    go_wp2
    go_ret
    exact .of (int_eq HR.out.symm) _
   ·have HR:Hid (ordL l1 l2=0):=Lib.hid (by rw[ord_done HZ.out (by omega)];exact cmpI_eq (by omega) (by omega))
    go_wp2
    go_ret
    exact .of (int_eq HR.out.symm) _
theorem scmp_q {S S':Nat→Prop} {w:World} {v1 v2:Value} {l1 l2:List Int} (h1:Ints S w v1 l1) (h2:Ints S' w v2 l2):
  Calls Tryz.prog 130 #[v1,v2] w (QuietP w (.int .i64 (ordL l1 l2))):=by
 obtain ⟨a1,c1,a2,c2,rfl,rfl,hm1,hm2,Q1,Q2,C1,C2⟩:=two_at h1 h2
 have K:=Lib.hid fun W x y=>((cmp_q W x y).mono fun _ _ h=>h.take)
 clear h1 h2
 go_enter Tryz.func130,Tryz.ntmps130
 go_wp2
 go_loopw [11] (fun i wr=>∃k:Nat,(k≤l1.length∧k≤l2.length)∧i=.int .i64 k∧QW w wr∧Hid (Zeros (fun i=>cmpI (nth l1 i) (nth l2 i)) k)) (fun i _=>l1.length - (intOf i).toNat)
 case atStart=>exact ⟨0,⟨Nat.zero_le _,Nat.zero_le _⟩,rfl,.refl _,Lib.hid (.zero _)⟩
 case round=>
  obtain ⟨k,⟨hk1,hk2⟩,rfl,hQ,HZ⟩:=hrel
  by_cases hlt1:k<l1.length
  ·have q1:=Q1.out k hlt1
   have p1:=cell_ext (C1.out k hlt1) hQ.ext
   by_cases hlt2:k<l2.length
   ·have q2:=Q2.out k hlt2
    have p2:=cell_ext (C2.out k hlt2) hQ.ext
    obtain ⟨x,hx⟩:∃x,x=nth l1 k:=⟨_,rfl⟩
    obtain ⟨y,hy⟩:∃x,x=nth l2 k:=⟨_,rfl⟩
    have HX:=Lib.hid hx
    have HY:=Lib.hid hy
    rw[←hx]at p1
    rw[←hy]at p2
    clear hx hy
    go_wp2_with fail
    refine (K.out _ _ _).mono ?_
    rintro _ w1 ⟨_,rfl,hq1,rfl⟩
    obtain ⟨c,hc⟩:∃c,c=cmpI x y:=⟨_,rfl⟩
    rw[←hc]
    by_cases h0:c=0
    ·have HN:Hid (Zeros (fun i=>cmpI (nth l1 i) (nth l2 i)) (k+1)):=Lib.hid (HZ.out.next (by show cmpI _ _=0;rw[←HX.out,←HY.out,←hc,h0]))
     subst h0
     clear hc
     go_wp2
     go_roundw
     case rel=>exact ⟨k+1,⟨by omega,by omega⟩,by go_num,hQ.trans hq1,HN⟩
     case measure=>simp[intOf];omega
    ·have HR:Hid (ordL l1 l2=c):=Lib.hid (ord_stop HZ.out hlt1 hlt2 (by rw[←HX.out,←HY.out,←hc]) h0)
     have e0:(c !=0)=true:=by simp[h0]
     clear hc h0
     go_wp2
     go_ret
     exact .fin (int_eq HR.out.symm) (hQ.trans hq1)
   ·have HR:Hid (ordL l1 l2=1):=Lib.hid (by rw[ord_done HZ.out (by omega)];exact cmpI_gt (by omega))
    go_wp2
    go_ret
    exact .fin (int_eq HR.out.symm) hQ
  ·by_cases hll:l1.length<l2.length
   ·have HR:Hid (ordL l1 l2= -1):=Lib.hid (by rw[ord_done HZ.out (by omega)];exact cmpI_lt (by omega))
    go_wp2
    go_ret
    exact .fin (int_eq HR.out.symm) hQ
   ·have HR:Hid (ordL l1 l2=0):=Lib.hid (by rw[ord_done HZ.out (by omega)];exact cmpI_eq (by omega) (by omega))
    go_wp2
    go_ret
    exact .fin (int_eq HR.out.symm) hQ
end Go.Proofs.YtaijafjfafbcfaaGreat
