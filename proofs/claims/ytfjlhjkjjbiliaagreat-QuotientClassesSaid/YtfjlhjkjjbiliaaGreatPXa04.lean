/- Part of the proof that the laws answer true for every input. -/
import Derived.Test.YtfjlhjkjjbiliaaGreatPXa03
import Derived.Laws.StructEq
set_option linter.unusedSimpArgs false
set_option linter.unnecessarySimpa false
set_option linter.unusedVariables false
set_option maxRecDepth 100000
set_option maxHeartbeats 40000000
namespace Go.Proofs.YtfjlhjkjjbiliaaGreat
open Go.RowKit
theorem ze2 (w:World) (n:Int):Calls Tryz.prog 162 #[.int .i64 n] w (QuietP w (.int .i64 (if n<1∨5<n then 1 else 0))):=by
 by_cases h1:n<1
 ·rw[if_pos (.inl h1)]
  go_enter Tryz.func162,Tryz.ntmps162
  go_wp2
  go_ret
  exact .same
 by_cases h5:5<n
 ·rw[if_pos (.inr h5)]
  go_enter Tryz.func162,Tryz.ntmps162
  go_wp2
  go_ret
  exact .same
 ·rw[if_neg (by omega)]
  go_enter Tryz.func162,Tryz.ntmps162
  go_wp2
  go_ret
  exact .same
theorem zef (w:World) (n:Int):Calls Tryz.prog 165 #[.int .i64 n] w (QuietP w (.int .i64 (if n<1∨5<n then 1 else 0))):=by
 by_cases h1:n<1
 ·rw[if_pos (.inl h1)]
  go_enter Tryz.func165,Tryz.ntmps165
  go_wp2
  go_ret
  exact .same
 by_cases h5:5<n
 ·rw[if_pos (.inr h5)]
  go_enter Tryz.func165,Tryz.ntmps165
  go_wp2
  go_ret
  exact .same
 ·rw[if_neg (by omega)]
  go_enter Tryz.func165,Tryz.ntmps165
  go_wp2
  go_ret
  exact .same
theorem zb3 {a n:Nat}:(((a:Int) / 2 ^ n) !=0)=decide (2 ^ n≤a):=by
 have e:((a:Int) / 2 ^ n)=((a / 2 ^ n:Nat):Int):=by simp
 rw[e]
 have hp:0<2 ^ n:=Nat.pow_pos (by decide)
 by_cases h:2 ^ n≤a
 ·have h0:0<a / 2 ^ n:=Nat.div_pos h hp
  rw[decide_eq_true h,bne_iff_ne]
  exact fun h1=>absurd (Int.natCast_eq_zero.1 h1) (by exact Nat.ne_of_gt h0)
 ·have h0:a / 2 ^ n=0:=Nat.div_eq_of_lt (by exact Nat.lt_of_not_le h)
  rw[decide_eq_false h,h0];rfl
theorem zgB (w:World) (n s:Int):Calls Tryz.prog 152 #[.int .i64 n,.int .i64 s] w (QuietP w (.int .i64 (checkP n s))):=by
 have K:=zhd ((ze2 w n).mono fun _ _ h=>h.take)
 by_cases hn:n<1∨5<n
 ·rw[show checkP n s=1 by unfold checkP;rw[if_pos hn]]
  rw[if_pos hn]at K
  clear hn
  go_enter Tryz.func152,Tryz.ntmps152
  go_wp2_with fail
  refine K.out.mono ?_
  rintro _ w1 ⟨_,rfl,hq1,rfl⟩
  go_wp2
  go_ret
  exact .fin rfl hq1
 rw[if_neg hn]at K
 obtain ⟨m,rfl⟩:∃m:Nat,n=m:=⟨n.toNat,by omega⟩
 have hm5:m≤5:=by omega
 have EC:checkP (m:Int) s=if s<0∨((2 ^ m:Nat):Int)≤s then 2 else 0:=by unfold checkP;rw[if_neg hn];rfl
 by_cases h0:s<0
 ·rw[EC,if_pos (.inl h0)]
  clear EC hn
  go_enter Tryz.func152,Tryz.ntmps152
  go_wp2_with fail
  refine K.out.mono ?_
  rintro _ w1 ⟨_,rfl,hq1,rfl⟩
  go_wp2
  go_ret
  exact .fin rfl hq1
 obtain ⟨a,rfl⟩:∃a:Nat,s=a:=⟨s.toNat,by omega⟩
 have KP:=zhd fun W=>((xW W hm5).mono fun _ _ h=>h.take)
 obtain ⟨z,hz⟩:∃z,z=2 ^ m:=⟨_,rfl⟩
 rw[←hz]at EC KP
 clear hz
 by_cases hz:z≤a
 ·rw[EC,if_pos (by omega)]
  clear EC hn
  go_enter Tryz.func152,Tryz.ntmps152
  go_wp2_with fail
  refine K.out.mono ?_
  rintro _ w1 ⟨_,rfl,hq1,rfl⟩
  go_wp2_with fail
  refine (KP.out _).mono ?_
  rintro _ w2 ⟨_,rfl,hq2,rfl⟩
  go_wp2
  go_ret
  exact .fin rfl (hq1.trans hq2)
 ·rw[EC,if_neg (by omega)]
  clear EC hn
  go_enter Tryz.func152,Tryz.ntmps152
  go_wp2_with fail
  refine K.out.mono ?_
  rintro _ w1 ⟨_,rfl,hq1,rfl⟩
  go_wp2_with fail
  refine (KP.out _).mono ?_
  rintro _ w2 ⟨_,rfl,hq2,rfl⟩
  go_wp2
  go_ret
  exact .fin rfl (hq1.trans hq2)
theorem zgv (w:World) (n s:Int):Calls Tryz.prog 159 #[.int .i64 n,.int .i64 s] w (QuietP w (.int .i64 (checkP n s))):=by
 have K:=zhd ((zef w n).mono fun _ _ h=>h.take)
 by_cases hn:n<1∨5<n
 ·rw[show checkP n s=1 by unfold checkP;rw[if_pos hn]]
  rw[if_pos hn]at K
  clear hn
  go_enter Tryz.func159,Tryz.ntmps159
  go_wp2_with fail
  refine K.out.mono ?_
  rintro _ w1 ⟨_,rfl,hq1,rfl⟩
  go_wp2
  go_ret
  exact .fin rfl hq1
 rw[if_neg hn]at K
 obtain ⟨m,rfl⟩:∃m:Nat,n=m:=⟨n.toNat,by omega⟩
 have hm5:m≤5:=by omega
 have EC:checkP (m:Int) s=if s<0∨((2 ^ m:Nat):Int)≤s then 2 else 0:=by unfold checkP;rw[if_neg hn];rfl
 by_cases h0:s<0
 ·rw[EC,if_pos (.inl h0)]
  clear EC hn
  go_enter Tryz.func159,Tryz.ntmps159
  go_wp2_with fail
  refine K.out.mono ?_
  rintro _ w1 ⟨_,rfl,hq1,rfl⟩
  go_wp2
  go_ret
  exact .fin rfl hq1
 obtain ⟨a,rfl⟩:∃a:Nat,s=a:=⟨s.toNat,by omega⟩
 by_cases hz:2 ^ m≤a
 ·rw[EC,if_pos (by omega)]
  have d:=(zb3 (a:=a) (n:=m)).trans (decide_eq_true hz)
  clear EC hn hz
  go_enter Tryz.func159,Tryz.ntmps159
  go_wp2_with fail
  refine K.out.mono ?_
  rintro _ w1 ⟨_,rfl,hq1,rfl⟩
  go_wp2
  go_ret
  exact .fin rfl hq1
 ·rw[EC,if_neg (by omega)]
  have d:=(zb3 (a:=a) (n:=m)).trans (decide_eq_false hz)
  clear EC hn hz
  go_enter Tryz.func159,Tryz.ntmps159
  go_wp2_with fail
  refine K.out.mono ?_
  rintro _ w1 ⟨_,rfl,hq1,rfl⟩
  go_wp2
  go_ret
  exact .fin rfl hq1
theorem zgO (w:World) (x:Int):Calls Tryz.prog 155 #[.int .i64 x] w (QuietP w (.bool false)):=by
 have e:(x !=x)=false:=by simp
 go_enter Tryz.func155,Tryz.ntmps155
 go_wp2
 go_ret
 exact .same
theorem zfs (w:World) (x y:Int):Calls Tryz.prog 145 #[.int .i64 x,.int .i64 y] w (QuietP w (.int .i64 (cmpI x y))):=by
 have K:=zhd fun W z=>((zgO W z).mono fun _ _ h=>h.take)
 unfold cmpI
 by_cases h1:x<y
 ·rw[if_pos h1]
  go_enter Tryz.func145,Tryz.ntmps145
  go_wp2_with fail
  refine (K.out _ _).mono ?_
  rintro _ w1 ⟨_,rfl,hq1,rfl⟩
  go_wp2_with fail
  refine (K.out _ _).mono ?_
  rintro _ w2 ⟨_,rfl,hq2,rfl⟩
  go_wp2
  go_ret
  exact .fin rfl (hq1.trans hq2)
 by_cases h2:y<x
 ·rw[if_neg h1,if_pos h2]
  go_enter Tryz.func145,Tryz.ntmps145
  go_wp2_with fail
  refine (K.out _ _).mono ?_
  rintro _ w1 ⟨_,rfl,hq1,rfl⟩
  go_wp2_with fail
  refine (K.out _ _).mono ?_
  rintro _ w2 ⟨_,rfl,hq2,rfl⟩
  go_wp2
  go_ret
  exact .fin rfl (hq1.trans hq2)
 ·rw[if_neg h1,if_neg h2]
  go_enter Tryz.func145,Tryz.ntmps145
  go_wp2_with fail
  refine (K.out _ _).mono ?_
  rintro _ w1 ⟨_,rfl,hq1,rfl⟩
  go_wp2_with fail
  refine (K.out _ _).mono ?_
  rintro _ w2 ⟨_,rfl,hq2,rfl⟩
  go_wp2
  go_ret
  exact .fin rfl (hq1.trans hq2)
theorem zfF {S S':Nat→Prop} {w:World} {v1 v2:Value} {l1 l2:List Int} (h1:Ints S w v1 l1) (h2:Ints S' w v2 l2):
  ∃a1 c1 a2 c2,v1=.slice a1 l1.length c1∧v2=.slice a2 l2.length c2∧l1.length≤9223372036854775807∧l2.length≤9223372036854775807∧
   Hid (∀k:Nat,k<l1.length→∀W:World,(Instr.indexAt 36 (.slice a1 l1.length c1) (.int .i64 k)).run Tryz.prog W=.ok (.pointer (some (adr a1 k))) W)∧
   Hid (∀k:Nat,k<l2.length→∀W:World,(Instr.indexAt 36 (.slice a2 l2.length c2) (.int .i64 k)).run Tryz.prog W=.ok (.pointer (some (adr a2 k))) W)∧
   Hid (∀k,k<l1.length→w.cell? (adr a1 k)=some (.int .i64 (nth l1 k)))∧Hid (∀k,k<l2.length→w.cell? (adr a2 k)=some (.int .i64 (nth l2 k))):=by
 obtain ⟨a1,c1,rfl,ha1,hl1,hm1,hc1,_⟩:=h1
 obtain ⟨a2,c2,rfl,ha2,hl2,hm2,hc2,_⟩:=h2
 unfold maxLen at hm1 hm2
 obtain ⟨i0,hi,hz0,hz1,hz2⟩:=info_parts zD
 exact ⟨a1,c1,a2,c2,rfl,rfl,by omega,by omega,zhd (zz Tryz.underlying36 hi hz1 ha1),zhd (zz Tryz.underlying36 hi hz1 ha2),zhd hc1,zhd hc2⟩
theorem zgL {S:Nat→Prop} {w:World} {v1:Value} {l1:List Int} (h1:Ints S w v1 l1):
  ∃a1 c1,v1=.slice a1 l1.length c1∧l1.length≤9223372036854775807∧
   Hid (∀k:Nat,k<l1.length→∀W:World,(Instr.indexAt 36 (.slice a1 l1.length c1) (.int .i64 k)).run Tryz.prog W=.ok (.pointer (some (adr a1 k))) W)∧
   Hid (∀k,k<l1.length→w.cell? (adr a1 k)=some (.int .i64 (nth l1 k))):=by
 obtain ⟨a1,c1,rfl,ha1,hl1,hm1,hc1,_⟩:=h1
 unfold maxLen at hm1
 obtain ⟨i0,hi,hz0,hz1,hz2⟩:=info_parts zD
 exact ⟨a1,c1,rfl,by omega,zhd (zz Tryz.underlying36 hi hz1 ha1),zhd hc1⟩
theorem zeV {a b:List Int} {k:Nat} (h:Zeros (fun i=>cmpI (nth a i) (nth b i)) k) (he:¬nth a k<nth b k) (he2:¬nth b k<nth a k):Zeros (fun i=>cmpI (nth a i) (nth b i)) (k+1):=
 h.next (by show cmpI _ _=0;unfold cmpI;rw[if_neg he,if_neg he2])
theorem Xg {a b:List Int} {k:Nat} {x:Int} (h:Zeros (fun i=>cmpI (nth a i) (nth b i)) k) (ha:k<a.length) (hb:k<b.length) (hx:cmpI (nth a k) (nth b k)=x) (h0:x≠0):ordL a b=x:=by
 have e:lexN a b (min a.length b.length)=x:=h.stop hx h0 (by omega)
 unfold ordL
 rw[e,if_neg h0]
theorem xu {a b:List Int} {k:Nat} (h:Zeros (fun i=>cmpI (nth a i) (nth b i)) k) (hk:a.length≤k∨b.length≤k):ordL a b=cmpI (a.length:Int) (b.length:Int):=by
 have e:lexN a b (min a.length b.length)=0:=h.done (by omega)
 unfold ordL
 rw[if_pos e]
theorem ZF {a b:Int} (h:a<b):cmpI a b= -1:=by unfold cmpI;rw[if_pos h]
theorem ZG {a b:Int} (h:b<a):cmpI a b=1:=by unfold cmpI;rw[if_neg (by omega),if_pos h]
theorem Yj {a b:Int} (h:¬a<b) (h2:¬b<a):cmpI a b=0:=by unfold cmpI;rw[if_neg h,if_neg h2]
theorem qT {S S':Nat→Prop} {w:World} {v1 v2:Value} {l1 l2:List Int} (h1:Ints S w v1 l1) (h2:Ints S' w v2 l2):
  Calls Tryz.prog 136 #[v1,v2] w (QuietP w (.int .i64 (ordL l1 l2))):=by
 obtain ⟨a1,c1,a2,c2,rfl,rfl,hm1,hm2,Q1,Q2,C1,C2⟩:=zfF h1 h2
 clear h1 h2
 go_enter Tryz.func136,Tryz.ntmps136
 go_wp2
 go_loopw [5] (fun i wr=>∃k:Nat,(k≤l1.length∧k≤l2.length)∧i=.int .i64 k∧QW w wr∧Hid (Zeros (fun i=>cmpI (nth l1 i) (nth l2 i)) k)) (fun i _=>l1.length - (intOf i).toNat)
 case atStart=>exact ⟨0,⟨Nat.zero_le _,Nat.zero_le _⟩,rfl,.refl _,zhd (.zero _)⟩
 case round=>
  obtain ⟨k,⟨hk1,hk2⟩,rfl,⟨m,rfl⟩,HZ⟩:=hrel
  by_cases hlt1:k<l1.length
  ·by_cases hlt2:k<l2.length
   ·have q1:=Q1.out k hlt1
    have q2:=Q2.out k hlt2
    have p1:=C1.out k hlt1
    have p2:=C2.out k hlt2
    obtain ⟨x,hx⟩:∃x,x=nth l1 k:=⟨_,rfl⟩
    obtain ⟨y,hy⟩:∃x,x=nth l2 k:=⟨_,rfl⟩
    have HX:=zhd hx
    have HY:=zhd hy
    rw[←hx]at p1
    rw[←hy]at p2
    clear hx hy
    by_cases hxy:x<y
    ·have HR:Hid (ordL l1 l2= -1):=zhd (Xg HZ.out hlt1 hlt2 (by rw[←HX.out,←HY.out];exact ZF hxy) (by decide))
     go_wp2
     go_quiet (fail)
     go_wp2
     go_ret
     rw[World.drewN_drewN]
     exact .of (zk HR.out.symm) _
    by_cases hyx:y<x
    ·have HR:Hid (ordL l1 l2=1):=zhd (Xg HZ.out hlt1 hlt2 (by rw[←HX.out,←HY.out];exact ZG hyx) (by decide))
     go_wp2
     go_quiet (fail)
     go_wp2
     go_quiet (fail)
     go_wp2
     go_ret
     exact .fin (zk HR.out.symm) ⟨_,by first | rfl | rw[World.drewN_drewN,World.drewN_drewN]⟩
    ·have HN:Hid (Zeros (fun i=>cmpI (nth l1 i) (nth l2 i)) (k+1)):=zhd (zeV HZ.out (by rw[←HX.out,←HY.out];exact hxy) (by rw[←HX.out,←HY.out];exact hyx))
     go_wp2
     go_quiet (fail)
     go_wp2
     go_quiet (fail)
     go_wp2
     go_roundw
     case rel=>exact ⟨k+1,⟨by omega,by omega⟩,by go_num,⟨_,by first | rfl | rw[World.drewN_drewN,World.drewN_drewN]⟩,HN⟩
     case measure=>simp[intOf];omega
   ·have HR:Hid (ordL l1 l2=1):=zhd (by rw[xu HZ.out (by omega)];exact ZG (by omega))
    go_wp2
    go_ret
    exact .of (zk HR.out.symm) _
  ·by_cases hll:l1.length<l2.length
   ·have HR:Hid (ordL l1 l2= -1):=zhd (by rw[xu HZ.out (by omega)];exact ZF (by omega))
    go_wp2
    go_ret
    exact .of (zk HR.out.symm) _
   ·have HR:Hid (ordL l1 l2=0):=zhd (by rw[xu HZ.out (by omega)];exact Yj (by omega) (by omega))
    go_wp2
    go_ret
    exact .of (zk HR.out.symm) _
theorem zfI {S S':Nat→Prop} {w:World} {v1 v2:Value} {l1 l2:List Int} (h1:Ints S w v1 l1) (h2:Ints S' w v2 l2):
  Calls Tryz.prog 130 #[v1,v2] w (QuietP w (.int .i64 (ordL l1 l2))):=by
 obtain ⟨a1,c1,a2,c2,rfl,rfl,hm1,hm2,Q1,Q2,C1,C2⟩:=zfF h1 h2
 have K:=zhd fun W x y=>((zfs W x y).mono fun _ _ h=>h.take)
 clear h1 h2
 go_enter Tryz.func130,Tryz.ntmps130
 go_wp2
 go_loopw [11] (fun i wr=>∃k:Nat,(k≤l1.length∧k≤l2.length)∧i=.int .i64 k∧QW w wr∧Hid (Zeros (fun i=>cmpI (nth l1 i) (nth l2 i)) k)) (fun i _=>l1.length - (intOf i).toNat)
 case atStart=>exact ⟨0,⟨Nat.zero_le _,Nat.zero_le _⟩,rfl,.refl _,zhd (.zero _)⟩
 case round=>
  obtain ⟨k,⟨hk1,hk2⟩,rfl,hQ,HZ⟩:=hrel
  by_cases hlt1:k<l1.length
  ·have q1:=Q1.out k hlt1
   have p1:=zj (C1.out k hlt1) hQ.ext
   by_cases hlt2:k<l2.length
   ·have q2:=Q2.out k hlt2
    have p2:=zj (C2.out k hlt2) hQ.ext
    obtain ⟨x,hx⟩:∃x,x=nth l1 k:=⟨_,rfl⟩
    obtain ⟨y,hy⟩:∃x,x=nth l2 k:=⟨_,rfl⟩
    have HX:=zhd hx
    have HY:=zhd hy
    rw[←hx]at p1
    rw[←hy]at p2
    clear hx hy
    go_wp2_with fail
    refine (K.out _ _ _).mono ?_
    rintro _ w1 ⟨_,rfl,hq1,rfl⟩
    obtain ⟨c,hc⟩:∃c,c=cmpI x y:=⟨_,rfl⟩
    rw[←hc]
    by_cases h0:c=0
    ·have HN:Hid (Zeros (fun i=>cmpI (nth l1 i) (nth l2 i)) (k+1)):=zhd (HZ.out.next (by show cmpI _ _=0;rw[←HX.out,←HY.out,←hc,h0]))
     subst h0
     clear hc
     go_wp2
     go_roundw
     case rel=>exact ⟨k+1,⟨by omega,by omega⟩,by go_num,hQ.trans hq1,HN⟩
     case measure=>simp[intOf];omega
    ·have HR:Hid (ordL l1 l2=c):=zhd (Xg HZ.out hlt1 hlt2 (by rw[←HX.out,←HY.out,←hc]) h0)
     have e0:(c !=0)=true:=by simp[h0]
     clear hc h0
     go_wp2
     go_ret
     exact .fin (zk HR.out.symm) (hQ.trans hq1)
   ·have HR:Hid (ordL l1 l2=1):=zhd (by rw[xu HZ.out (by omega)];exact ZG (by omega))
    go_wp2
    go_ret
    exact .fin (zk HR.out.symm) hQ
  ·by_cases hll:l1.length<l2.length
   ·have HR:Hid (ordL l1 l2= -1):=zhd (by rw[xu HZ.out (by omega)];exact ZF (by omega))
    go_wp2
    go_ret
    exact .fin (zk HR.out.symm) hQ
   ·have HR:Hid (ordL l1 l2=0):=zhd (by rw[xu HZ.out (by omega)];exact Yj (by omega) (by omega))
    go_wp2
    go_ret
    exact .fin (zk HR.out.symm) hQ
def idxP {α:Type} (p:α→Bool) (l:List α):Int:=if l.any p=true then (l.findIdx p:Int) else -1
theorem Xy {α:Type} {p:α→Bool} {l:List α} (h:∀j (hj:j<l.length),p l[j]=false):idxP p l= -1:=by
 unfold idxP
 rw[if_neg]
 intro e
 obtain ⟨x,hx,hp⟩:=List.any_eq_true.1 e
 obtain ⟨j,hj,rfl⟩:=List.getElem_of_mem hx
 rw[h j hj]at hp
 cases hp
theorem zbY {α:Type} {p:α→Bool} {l:List α} {k:Nat} (hk:k<l.length) (h:∀j (hj:j<k),p (l[j]'(by omega))=false) (h2:p l[k]=true):idxP p l=k:=by
 unfold idxP
 rw[if_pos (List.any_eq_true.2 ⟨l[k],List.getElem_mem hk,h2⟩)]
 congr 1
 exact (List.findIdx_eq hk).2 ⟨h2,fun j hj=>h j hj⟩
theorem zbJ {α:Type} {p:α→Bool} {l:List α}:0≤idxP p l↔l.any p=true:=by
 unfold idxP
 split
 ·rename_i h;exact ⟨fun _=>h,fun _=>by omega⟩
 ·rename_i h;exact ⟨fun h=>absurd h (by omega),fun e=>absurd e h⟩
theorem zfM {α:Type} {p:α→Bool} {l:List α} (h:∀j (hj:j<l.length),p l[j]=false):l.any p=false:=by
 cases e:l.any p with
 | false=>rfl
 | true=>
  obtain ⟨x,hx,hp⟩:=List.any_eq_true.1 e
  obtain ⟨j,hj,rfl⟩:=List.getElem_of_mem hx
  rw[h j hj]at hp
  cases hp
theorem zbo {α:Type} {p:α→Bool} {l:List α} {k:Nat} (hk:k<l.length) (h:p l[k]=true):l.any p=true:=List.any_eq_true.2 ⟨_,List.getElem_mem hk,h⟩
theorem zbz {S:Nat→Prop} {w:World} {va:Value} {l:List Int} (ha:Ints S w va l) {g:Nat} {c0:Value} (p:Int→Bool)
  (eg:∀args w,(callFunc g args).run Tryz.prog w=.ok (.enter g args) w)
  (hp:∀W,QW w W→∀k,(hk:k<l.length)→Calls Tryz.prog g #[.int .i64 (nth l k),c0] W (QuietP W (.bool (p l[k])))):
  Calls Tryz.prog 154 #[va,.func (.func g) #[] #[c0]] w (QuietP w (.int .i64 (idxP p l))):=by
 obtain ⟨a,cap,rfl,ad,l1,lm⟩:=ha.form
 unfold maxLen at lm
 obtain ⟨i0,hi,hz0,hz1,hz2⟩:=info_parts zD
 have HQA:=zhd (zz Tryz.underlying36 hi hz1 ad)
 have HC:=zhd (show∀j,j<l.length→w.cell? (adr a j)=some (.int .i64 (nth l j)) from by obtain ⟨_,_,e,_,_,_,hc,_⟩:=ha;simp only[Value.slice.injEq]at e;obtain ⟨rfl,_,_⟩:=e;exact hc)
 have HP:=zhd (fun W hW k hk=>(hp W hW k hk).mono fun _ _ h=>h.take)
 clear hi hz0 hz1 hz2 ha hp
 go_enter Tryz.func154,Tryz.ntmps154
 go_wp2
 go_loopw [8] (fun i wr=>∃k:Nat,k≤l.length∧i=.int .i64 k∧QW w wr∧Hid (∀j (hj:j<l.length),j<k→p l[j]=false)) (fun i _=>l.length - (intOf i).toNat)
 case atStart=>exact ⟨0,Nat.zero_le _,rfl,.refl _,zhd fun j _ hj=>absurd hj (by omega)⟩
 case round=>
  obtain ⟨k,hk,rfl,hQ,hB⟩:=hrel
  by_cases hlt:k<l.length
  ·have q:=HQA.out k hlt
   have cu:=xm ad hQ.ext HC.out k hlt
   obtain ⟨x,hx⟩:∃x,x=nth l k:=⟨_,rfl⟩
   rw[←hx]at cu
   have KP:=zhd (HP.out wr hQ k hlt)
   rw[←hx]at KP
   clear hx
   obtain ⟨b,hb⟩:∃b,b=p l[k]:=⟨_,rfl⟩
   rw[←hb]at KP
   have HBB:=zhd hb
   clear hb
   go_wp2_with fail
   refine KP.out.mono ?_
   rintro _ w2 ⟨_,rfl,hq2,rfl⟩
   have hQ2:=hQ.trans hq2
   clear KP hQ hq2 cu
   cases b with
   | true=>
    have HR:=zhd (zbY hlt (fun j hj=>hB.out j _ hj) HBB.out.symm)
    clear hB
    go_wp2
    go_ret
    exact .fin (zk HR.out.symm) hQ2
   | false=>
    have HN:Hid (∀j (hj:j<l.length),j<k+1→p l[j]=false):=zhd fun j hl hj=>by
     by_cases e:j=k
     ·subst e;exact HBB.out.symm
     ·exact hB.out j hl (by omega)
    clear hB
    go_wp2
    go_roundw
    case rel=>exact ⟨k+1,by omega,by go_num,hQ2,HN⟩
    case measure=>simp[intOf];omega
  ·obtain rfl:k=l.length:=by omega
   have HR:=zhd (Xy fun j hj=>hB.out j hj hj)
   clear hB
   go_wp2
   go_ret
   exact .fin (zk HR.out.symm) hQ
theorem Y8 {S:Nat→Prop} {w:World} {va:Value} {l:List Int} (ha:Ints S w va l) {g:Nat} {c0:Value} (p:Int→Bool)
  (eg:∀args w,(callFunc g args).run Tryz.prog w=.ok (.enter g args) w)
  (hp:∀W,QW w W→∀k,(hk:k<l.length)→Calls Tryz.prog g #[.int .i64 (nth l k),c0] W (QuietP W (.bool (p l[k])))):
  Calls Tryz.prog 143 #[va,.func (.func g) #[] #[c0]] w (QuietP w (.bool (l.any p))):=by
 have K:=zhd ((zbz ha p eg hp).mono fun _ _ h=>h.take)
 have HI:=zhd (zbJ (p:=p) (l:=l))
 obtain ⟨a,cap,rfl,_⟩:=ha.form
 clear hp ha eg
 obtain ⟨x,hx⟩:∃x,x=idxP p l:=⟨_,rfl⟩
 obtain ⟨b,hb⟩:∃b,b=l.any p:=⟨_,rfl⟩
 rw[←hx]at K HI
 rw[←hb]at HI ⊢
 clear hx hb
 go_enter Tryz.func143,Tryz.ntmps143
 go_wp2_with fail
 refine K.out.mono ?_
 rintro _ w2 ⟨_,rfl,hq2,rfl⟩
 clear K
 cases b with
 | true=>
  have h0:0≤x:=HI.out.2 rfl
  go_wp2
  go_ret
  exact .fin (by simp[h0]) hq2
 | false=>
  have h0:¬0≤x:=fun h=>by cases HI.out.1 h
  go_wp2
  go_ret
  exact .fin (by simp[h0]) hq2
theorem za6 {S:Nat→Prop} {w:World} {va:Value} {l:List (List Int)} (ha:Lists S w va l) {g:Nat} {c0:Value} (p:List Int→Bool)
  (eg:∀args w,(callFunc g args).run Tryz.prog w=.ok (.enter g args) w)
  (hp:∀W,QW w W→∀k,(hk:k<l.length)→∀u,Ints S W u (nthL l k)→Calls Tryz.prog g #[u,c0] W (QuietP W (.bool (p l[k])))):
  Calls Tryz.prog 163 #[va,.func (.func g) #[] #[c0]] w (QuietP w (.int .i64 (idxP p l))):=by
 obtain ⟨a,cap,rfl,ad,l1,lm⟩:=ha.form
 unfold maxLen at lm
 obtain ⟨i0,hi,hz0,hz1,hz2⟩:=info_parts zK
 have HQA:=zhd (zz Tryz.underlying109 hi hz1 ad)
 have HA:=zhd ha
 have HP:=zhd (fun W hW k hk u hu=>(hp W hW k hk u hu).mono fun _ _ h=>h.take)
 clear hi hz0 hz1 hz2 ha hp
 go_enter Tryz.func163,Tryz.ntmps163
 go_wp2
 go_loopw [8] (fun i wr=>∃k:Nat,k≤l.length∧i=.int .i64 k∧QW w wr∧Hid (∀j (hj:j<l.length),j<k→p l[j]=false)) (fun i _=>l.length - (intOf i).toNat)
 case atStart=>exact ⟨0,Nat.zero_le _,rfl,.refl _,zhd fun j _ hj=>absurd hj (by omega)⟩
 case round=>
  obtain ⟨k,hk,rfl,hQ,hB⟩:=hrel
  by_cases hlt:k<l.length
  ·have q:=HQA.out k hlt
   obtain ⟨u,cu,iu⟩:=HA.out.at hQ.ext hlt
   have KP:=zhd (HP.out wr hQ k hlt u iu)
   clear iu
   obtain ⟨b,hb⟩:∃b,b=p l[k]:=⟨_,rfl⟩
   rw[←hb]at KP
   have HBB:=zhd hb
   clear hb
   go_wp2_with fail
   refine KP.out.mono ?_
   rintro _ w2 ⟨_,rfl,hq2,rfl⟩
   have hQ2:=hQ.trans hq2
   clear KP hQ hq2 cu
   cases b with
   | true=>
    have HR:=zhd (zbY hlt (fun j hj=>hB.out j _ hj) HBB.out.symm)
    clear hB
    go_wp2
    go_ret
    exact .fin (zk HR.out.symm) hQ2
   | false=>
    have HN:Hid (∀j (hj:j<l.length),j<k+1→p l[j]=false):=zhd fun j hl hj=>by
     by_cases e:j=k
     ·subst e;exact HBB.out.symm
     ·exact hB.out j hl (by omega)
    clear hB
    go_wp2
    go_roundw
    case rel=>exact ⟨k+1,by omega,by go_num,hQ2,HN⟩
    case measure=>simp[intOf];omega
  ·obtain rfl:k=l.length:=by omega
   have HR:=zhd (Xy fun j hj=>hB.out j hj hj)
   clear hB
   go_wp2
   go_ret
   exact .fin (zk HR.out.symm) hQ
theorem Y5 {S:Nat→Prop} {w:World} {va:Value} {l:List (List Int)} (ha:Lists S w va l) {g:Nat} {c0:Value} (p:List Int→Bool)
  (eg:∀args w,(callFunc g args).run Tryz.prog w=.ok (.enter g args) w)
  (hp:∀W,QW w W→∀k,(hk:k<l.length)→∀u,Ints S W u (nthL l k)→Calls Tryz.prog g #[u,c0] W (QuietP W (.bool (p l[k])))):
  Calls Tryz.prog 156 #[va,.func (.func g) #[] #[c0]] w (QuietP w (.bool (l.any p))):=by
 have K:=zhd ((za6 ha p eg hp).mono fun _ _ h=>h.take)
 have HI:=zhd (zbJ (p:=p) (l:=l))
 obtain ⟨a,cap,rfl,_⟩:=ha.form
 clear hp ha eg
 obtain ⟨x,hx⟩:∃x,x=idxP p l:=⟨_,rfl⟩
 obtain ⟨b,hb⟩:∃b,b=l.any p:=⟨_,rfl⟩
 rw[←hx]at K HI
 rw[←hb]at HI ⊢
 clear hx hb
 go_enter Tryz.func156,Tryz.ntmps156
 go_wp2_with fail
 refine K.out.mono ?_
 rintro _ w2 ⟨_,rfl,hq2,rfl⟩
 clear K
 cases b with
 | true=>
  have h0:0≤x:=HI.out.2 rfl
  go_wp2
  go_ret
  exact .fin (by simp[h0]) hq2
 | false=>
  have h0:¬0≤x:=fun h=>by cases HI.out.1 h
  go_wp2
  go_ret
  exact .fin (by simp[h0]) hq2
def badV (most x:Int):Bool:=decide (x<0)||decide (most≤x)
theorem zbQ {v:List Int} {n most:Int} (h:(v.length:Int)≠n):vecE v n most=15:=by unfold vecE;rw[if_neg h]
theorem zet {v:List Int} {n most:Int} (h:(v.length:Int)=n):vecE v n most=if v.any (badV most) then 2 else 0:=by unfold vecE;rw[if_pos h];rfl
theorem zdm (w:World) (b:Nat) (x most:Int) (hc:w.cell? ⟨b,0,none⟩=some (.int .i64 most)):Calls Tryz.prog 144 #[.int .i64 x,.pointer (some ⟨b,0,none⟩)] w (QuietP w (.bool (badV most x))):=by
 unfold badV
 by_cases h0:x<0
 ·rw[decide_eq_true h0,Bool.true_or]
  go_enter Tryz.func144,Tryz.ntmps144
  go_wp2
  go_ret
  exact .same
 by_cases h1:most≤x
 ·rw[decide_eq_false h0,decide_eq_true h1,Bool.or_true]
  go_enter Tryz.func144,Tryz.ntmps144
  go_wp2
  go_ret
  exact .same
 ·rw[decide_eq_false h0,decide_eq_false h1,Bool.or_false]
  go_enter Tryz.func144,Tryz.ntmps144
  go_wp2
  go_ret
  exact .same
theorem Zr {S:Nat→Prop} {w:World} {v:Value} {l:List Int} (h:Ints S w v l) (n most:Int):
  Calls Tryz.prog 129 #[v,.int .i64 n,.int .i64 most] w (Post w fun _ r=>r=.int .i64 (vecE l n most)):=by
 have ex:=ze w (.cells #[.int .i64 most] 3)
 have R:Row (w.alloc (.cells #[.int .i64 most] 3)) w.heap.size 3 [.int .i64 most]:=zh w [.int .i64 most] _
 have K:=zhd (Y8 (h.ext ex) (g:=144) (c0:=.pointer (some ⟨w.heap.size,0,none⟩)) (badV most) (by intro args w;rfl) fun W hW k hk=>by
  rw[←yh hk]
  exact zdm W _ _ most ((R.ext hW.ext).cell rfl))
 obtain ⟨a,c,rfl,_⟩:=h.form
 clear h R
 by_cases hl:(l.length:Int)=n
 ·rw[zet hl]
  have e:((l.length:Int) !=n)=false:=by simp[hl]
  obtain ⟨b,hb⟩:∃b,b=l.any (badV most):=⟨_,rfl⟩
  rw[←hb]at K ⊢
  clear hl hb
  cases b with
  | true=>
   go_enter Tryz.func129,Tryz.ntmps129
   go_wp2_with fail
   refine (K.out.mono fun _ _ h=>h.take).mono ?_
   rintro _ w2 ⟨_,rfl,hq2,rfl⟩
   go_wp2
   go_ret
   exact .mk (zb ex hq2.ext) rfl
  | false=>
   go_enter Tryz.func129,Tryz.ntmps129
   go_wp2_with fail
   refine (K.out.mono fun _ _ h=>h.take).mono ?_
   rintro _ w2 ⟨_,rfl,hq2,rfl⟩
   go_wp2
   go_ret
   exact .mk (zb ex hq2.ext) rfl
 ·rw[zbQ hl]
  have e:((l.length:Int) !=n)=true:=by simpa using hl
  clear hl K
  go_enter Tryz.func129,Tryz.ntmps129
  go_wp2
  go_ret
  exact .mk ex rfl
theorem Yc {S:Nat→Prop} {w:World} {v:Value} {l:List Int} (h:Ints S w v l) (n most:Int):
  Calls Tryz.prog 135 #[v,.int .i64 n,.int .i64 most] w (QuietP w (.int .i64 (vecE l n most))):=by
 obtain ⟨a,c,rfl,hm,Q,C⟩:=zgL h
 clear h
 by_cases hl:(l.length:Int)=n
 ·rw[zet hl]
  obtain ⟨r,hr⟩:∃r:Int,r=if l.any (badV most) then 2 else 0:=⟨_,rfl⟩
  rw[←hr]
  have HRR:=zhd hr
  have e:((l.length:Int) !=n)=false:=by simp[hl]
  have HN:=zhd hl
  clear hl hr
  go_enter Tryz.func135,Tryz.ntmps135
  go_wp2
  go_loopw [7] (fun i wr=>∃k:Nat,k≤l.length∧i=.int .i64 k∧QW w wr∧Hid (∀j (hj:j<l.length),j<k→badV most l[j]=false)) (fun i _=>l.length - (intOf i).toNat)
  case atStart=>exact ⟨0,Nat.zero_le _,rfl,.refl _,zhd fun j _ hj=>absurd hj (by omega)⟩
  case round=>
   obtain ⟨k,hk,rfl,hQ,hB⟩:=hrel
   have hn1:(l.length:Int)≤n:=by have:=HN.out;omega
   have hn2:n≤(l.length:Int):=by have:=HN.out;omega
   by_cases hlt:k<l.length
   ·have q:=Q.out k hlt
    have p:=zj (C.out k hlt) hQ.ext
    obtain ⟨x,hx⟩:∃x,x=nth l k:=⟨_,rfl⟩
    rw[←hx]at p
    have HX:Hid (badV most l[k]=badV most x):=zhd (by rw[hx,yh hlt])
    clear hx
    by_cases h0:x<0
    ·have HR:Hid (r=2):=zhd (by rw[HRR.out,zbo hlt (by rw[HX.out];simp[badV,h0])];rfl)
     go_wp2
     go_ret
     exact .fin (zk HR.out.symm) hQ
    by_cases h1:most≤x
    ·have HR:Hid (r=2):=zhd (by rw[HRR.out,zbo hlt (by rw[HX.out];simp[badV,h1])];rfl)
     go_wp2
     go_ret
     exact .fin (zk HR.out.symm) hQ
    ·have HN:Hid (∀j (hj:j<l.length),j<k+1→badV most l[j]=false):=zhd fun j hl hj=>by
      by_cases e:j=k
      ·subst e;rw[HX.out];simp[badV];omega
      ·exact hB.out j hl (by omega)
     go_wp2
     go_roundw
     case rel=>exact ⟨k+1,by omega,by go_num,hQ,HN⟩
     case measure=>simp[intOf];omega
   ·obtain rfl:k=l.length:=by omega
    have HR:Hid (r=0):=zhd (by rw[HRR.out,zfM fun j hj=>hB.out j hj hj];rfl)
    go_wp2
    go_ret
    exact .fin (zk HR.out.symm) hQ
 ·rw[zbQ hl]
  have e:((l.length:Int) !=n)=true:=by simpa using hl
  clear hl
  go_enter Tryz.func135,Tryz.ntmps135
  go_wp2
  go_ret
  exact .same
theorem zfQ {l:List (List Int)} {v:List Int}:l.any (fun x=>decide (ordL x v=0))=decide (v∈l):=by
 rw[Bool.eq_iff_iff,List.any_eq_true,decide_eq_true_eq]
 constructor
 ·rintro ⟨x,hx,h⟩
  have:=Yf.1 (of_decide_eq_true h)
  exact this▸hx
 ·intro h;exact ⟨v,h,decide_eq_true (Yf.2 rfl)⟩
theorem zfe {l:List (List Int)} {v:List Int}:l.any (fun x=>decide (x=v))=decide (v∈l):=by
 rw[Bool.eq_iff_iff,List.any_eq_true,decide_eq_true_eq]
 constructor
 ·rintro ⟨x,hx,h⟩
  have:=of_decide_eq_true h
  exact this▸hx
 ·intro h;exact ⟨v,h,decide_eq_true rfl⟩
theorem zfH {S S':Nat→Prop} {w:World} {v u:Value} {l:List (List Int)} {x:List Int} (h:Lists S w v l) (hx:Ints S' w u x):
  Calls Tryz.prog 137 #[v,u] w (QuietP w (.bool (decide (x∈l)))):=by
 rw[←zfQ]
 obtain ⟨a,cap,rfl,ad,l1,lm⟩:=h.form
 unfold maxLen at lm
 obtain ⟨i0,hi,hz0,hz1,hz2⟩:=info_parts zK
 have HQA:=zhd (zz Tryz.underlying109 hi hz1 ad)
 have HA:=zhd h
 have HX:=zhd hx
 clear hi hz0 hz1 hz2 h hx
 go_enter Tryz.func137,Tryz.ntmps137
 go_wp2
 go_loopw [5] (fun i wr=>∃k:Nat,k≤l.length∧i=.int .i64 k∧QW w wr∧Hid (∀j (hj:j<l.length),j<k→decide (ordL l[j] x=0)=false)) (fun i _=>l.length - (intOf i).toNat)
 case atStart=>exact ⟨0,Nat.zero_le _,rfl,.refl _,zhd fun j _ hj=>absurd hj (by omega)⟩
 case round=>
  obtain ⟨k,hk,rfl,hQ,hB⟩:=hrel
  by_cases hlt:k<l.length
  ·have q:=HQA.out k hlt
   obtain ⟨u1,cu,iu⟩:=HA.out.at hQ.ext hlt
   rw[zU hlt]at iu
   have KP:=zhd ((qT iu (HX.out.ext hQ.ext)).mono fun _ _ h=>h.take)
   clear iu
   obtain ⟨b,hb⟩:∃b,b=ordL l[k] x:=⟨_,rfl⟩
   rw[←hb]at KP
   have HBB:=zhd hb
   clear hb
   go_wp2_with fail
   refine KP.out.mono ?_
   rintro _ w2 ⟨_,rfl,hq2,rfl⟩
   have hQ2:=hQ.trans hq2
   clear KP hQ hq2 cu
   by_cases h0:b=0
   ·have HR:=zhd (zbo (p:=fun y=>decide (ordL y x=0)) hlt (by simp[←HBB.out,h0]))
    subst h0
    clear hB
    go_wp2
    go_ret
    exact .fin (zr HR.out.symm) hQ2
   ·have HN:Hid (∀j (hj:j<l.length),j<k+1→decide (ordL l[j] x=0)=false):=zhd fun j hl hj=>by
     by_cases e:j=k
     ·subst e;rw[←HBB.out];exact decide_eq_false h0
     ·exact hB.out j hl (by omega)
    have e0:(b==0)=false:=by simp[h0]
    clear hB h0
    go_wp2
    go_roundw
    case rel=>exact ⟨k+1,by omega,by go_num,hQ2,HN⟩
    case measure=>simp[intOf];omega
  ·obtain rfl:k=l.length:=by omega
   have HR:=zhd (zfM (p:=fun y=>decide (ordL y x=0)) fun j hj=>hB.out j hj hj)
   clear hB
   go_wp2
   go_ret
   exact .fin (zr HR.out.symm) hQ
theorem zgz {S S':Nat→Prop} {w:World} {u v:Value} {x y:List Int} (hu:Ints S w u x) (hv:Ints S' w v y) {b:Nat} (hc:w.cell? ⟨b,0,none⟩=some v):Calls Tryz.prog 157 #[u,.pointer (some ⟨b,0,none⟩)] w (QuietP w (.bool (decide (x=y)))):=by
 have K:=zhd ((Yr hu hv).mono fun _ _ h=>h.take)
 obtain ⟨a1,c1,rfl,_⟩:=hu.form
 obtain ⟨a2,c2,rfl,_⟩:=hv.form
 clear hu hv
 go_enter Tryz.func157,Tryz.ntmps157
 go_wp2_with fail
 refine K.out.mono ?_
 rintro _ w2 ⟨_,rfl,hq2,rfl⟩
 go_wp2
 go_ret
 exact .fin rfl hq2
theorem zcA {S S':Nat→Prop} {w:World} {v u:Value} {l:List (List Int)} {x:List Int} (h:Lists S w v l) (hx:Ints S' w u x):
  Calls Tryz.prog 147 #[v,u] w (Post w fun _ r=>r=.bool (decide (x∈l))):=by
 rw[←zfe]
 have ex:=ze w (.cells #[u] 36)
 have R:Row (w.alloc (.cells #[u] 36)) w.heap.size 36 [u]:=zh w [u] _
 have hx1:=hx.ext ex
 have K:=zhd ((Y5 (h.ext ex) (g:=157) (c0:=.pointer (some ⟨w.heap.size,0,none⟩)) (fun y=>decide (y=x)) (by intro args w;rfl) fun W hW k hk u1 hu1=>by
  rw[←zU hk]
  exact zgz hu1 (hx1.ext hW.ext) ((R.ext hW.ext).cell rfl)).mono fun _ _ h=>h.take)
 obtain ⟨a,c,rfl,_⟩:=h.form
 obtain ⟨a2,c2,rfl,_⟩:=hx.form
 clear h hx hx1 R
 go_enter Tryz.func147,Tryz.ntmps147
 go_wp2_with fail
 refine K.out.mono ?_
 rintro _ w2 ⟨_,rfl,hq2,rfl⟩
 go_wp2
 go_ret
 exact .mk (zb ex hq2.ext) rfl
theorem YQ {S:Nat→Prop} {w:World} {v:Value} {l:List (List Int)} (h:Lists S w v l) {k:Nat} (hk:k<l.length):
  Calls Tryz.prog 146 #[v,.int .i64 k] w (QuietP w (.bool (unord l k))):=by
 obtain ⟨a,cap,rfl,ad,l1,lm⟩:=h.form
 unfold maxLen at lm
 obtain ⟨i0,hi,hz0,hz1,hz2⟩:=info_parts zK
 have HQA:=zhd (zz Tryz.underlying109 hi hz1 ad)
 clear hi hz0 hz1 hz2
 by_cases h0:0<k
 ·obtain ⟨j,hj⟩:∃j,j=k - 1:=⟨_,rfl⟩
  have q1:=HQA.out j (by omega)
  have q2:=HQA.out k hk
  obtain ⟨u1,cu1,iu1⟩:=h.at (.refl _ _) (show j<l.length by omega)
  obtain ⟨u2,cu2,iu2⟩:=h.at (.refl _ _) hk
  have eu:unord l k=decide (0≤ordL (nthL l j) (nthL l k)):=by unfold unord;rw[←hj];simp[h0]
  rw[eu]
  have K:∀n,Calls Tryz.prog 130 #[u1,u2] (w.drewN n) (QuietP (w.drewN n) (.int .i64 (ordL (nthL l j) (nthL l k)))):=fun n=>zfI (iu1.drewN n) (iu2.drewN n)
  obtain ⟨x,hx⟩:∃x,x=ordL (nthL l j) (nthL l k):=⟨_,rfl⟩
  rw[←hx]at K ⊢
  have KH:=zhd K
  have w1:IntKind.i64.wrap ((k:Int) - 1)=j:=by rw[IntKind.wrap_i64];omega
  have w2:decide ((0:Int)<(k:Int))=true:=decide_eq_true (by omega)
  have w3:decide (0<k)=true:=decide_eq_true h0
  have w4:(0:Int)≤(j:Int):=by omega
  have w5:(j:Int)<(l.length:Int):=by omega
  have w6:(k:Int)<(l.length:Int):=by omega
  clear hj
  clear hx eu h K iu1 iu2
  by_cases hx0:0≤x
  ·rw[decide_eq_true hx0]
   go_enter Tryz.func146,Tryz.ntmps146
   go_wp2
   go_quiet ((go_at_call 130;exact zv (KH.out _)))
   go_wp2
   go_ret
   exact .of (by simp[hx0]) _
  ·rw[decide_eq_false hx0]
   go_enter Tryz.func146,Tryz.ntmps146
   go_wp2
   go_quiet ((go_at_call 130;exact zv (KH.out _)))
   go_wp2
   go_ret
   exact .of (by simp[hx0]) _
 ·obtain rfl:k=0:=by omega
  have eu:unord l 0=false:=by unfold unord;simp
  rw[eu]
  have hj0:decide ((0:Int)<((0:Nat):Int))=false:=by simp
  clear h eu
  go_enter Tryz.func146,Tryz.ntmps146
  go_wp2
  go_quiet (fail)
  go_wp2
  go_ret
  exact .of rfl _
theorem zT (W:World) (xs:List Value) (k:Nat) (v:Value) (h:xs[k]? =some v):(part 3 xs.toArray k).run Tryz.prog W=.ok v W:=by
 obtain ⟨i,hi,hz1,hz2,hz3⟩:=info_parts zD
 have hs:((xs.toArray)[k]?)=some v:=by simpa using h
 simp[part,sizeOf,typeInfo,hi,hz2,Tryz.underlying3,run_underlying,hs]
def eqN (n:Nat) (a b:List Int):Bool:=allN (fun i=>nth a i==nth b i) n
theorem zeF {n:Nat} {a b:List Int}:eqN n a b=true↔∀i,i<n→nth a i=nth b i:=by
 unfold eqN;rw[yO]
 exact ⟨fun h i hi=>by simpa using h i hi,fun h i hi=>by simpa using h i hi⟩
theorem Qk {n:Nat} {a b:List Int} (ha:a.length=n) (hb:b.length=n):eqN n a b=decide (a=b):=by
 rw[Bool.eq_iff_iff,zeF,decide_eq_true_eq]
 exact ⟨fun h=>zc7 (by omega) (fun i hi=>h i (by omega)),fun h i _=>by rw[h]⟩
theorem Xq {n:Nat} {a b:List Int}:eqN n a b=decide (lexN a b n=0):=by
 rw[Bool.eq_iff_iff,zeF,decide_eq_true_eq,Yi]
def gL (a:List Int):Value:=(.agg #[.int .i64 (nth a 0),.int .i64 (nth a 1),.int .i64 (nth a 2),.int .i64 (nth a 3),.int .i64 (nth a 4),.int .i64 (nth a 5)])
def rL (a:List Int):Value:=(.agg #[.int .i64 (nth a 0),.int .i64 (nth a 1),.int .i64 (nth a 2),.int .i64 (nth a 3),.int .i64 (nth a 4),.int .i64 (nth a 5),.int .i64 (nth a 6)])
def mL (a:List Int):Value:=(.agg #[.int .i64 (nth a 0),.int .i64 (nth a 1),.int .i64 (nth a 2),.int .i64 (nth a 3),.int .i64 (nth a 4),.int .i64 (nth a 5),.int .i64 (nth a 6),.int .i64 (nth a 7)])
theorem zE {T:TypeId} {z:Nat} (h:(Tryz.prog.info? T).map (fun i=>i.size)=some z):∃i,Tryz.prog.info? T=some i∧i.size=z:=by
 cases h0:Tryz.prog.info? T with
 | none=>rw[h0]at h;cases h
 | some i=>rw[h0]at h;exact ⟨i,rfl,by simpa using h⟩
theorem ZD (f:Nat→Int) {p:Nat} (hp:p<5) (W:World):(Instr.index 70 (.agg #[.int .i64 (f 0),.int .i64 (f 1),.int .i64 (f 2),.int .i64 (f 3),.int .i64 (f 4)]) (.int .i64 p)).run Tryz.prog W=.ok (.int .i64 (f p)) W:=by
 obtain ⟨i,hi,hz1,hz2,hz3⟩:=info_parts zD
 have hP:=zT W [.int .i64 (f 0),.int .i64 (f 1),.int .i64 (f 2),.int .i64 (f 3),.int .i64 (f 4)] p (.int .i64 (f p)) (by rcases five hp with rfl | rfl | rfl | rfl | rfl<;>rfl)
 simp[Instr.index,asIntOf,run_underlying Tryz.underlying70,sizeOf,typeInfo,hi,hz2]
 rw[if_pos hp]
 exact hP
theorem Qs (d:Nat) (f g:Nat→Int) (W:World):
  (Op.equalIn (d+2) 70 (.agg #[.int .i64 (f 0),.int .i64 (f 1),.int .i64 (f 2),.int .i64 (f 3),.int .i64 (f 4)]) (.agg #[.int .i64 (g 0),.int .i64 (g 1),.int .i64 (g 2),.int .i64 (g 3),.int .i64 (g 4)])).run Tryz.prog W
   =.ok (f 0==g 0&&(f 1==g 1&&(f 2==g 2&&(f 3==g 3&&f 4==g 4)))) W:=by
 obtain ⟨i,hi,hz1,hz2,hz3⟩:=info_parts zD
 have pf0:∀W:World,(part 3 #[.int .i64 (f 0),.int .i64 (f 1),.int .i64 (f 2),.int .i64 (f 3),.int .i64 (f 4)] 0).run Tryz.prog W=.ok (.int .i64 (f 0)) W:=fun W=>zT W [.int .i64 (f 0),.int .i64 (f 1),.int .i64 (f 2),.int .i64 (f 3),.int .i64 (f 4)] 0 _ rfl
 have pf1:∀W:World,(part 3 #[.int .i64 (f 0),.int .i64 (f 1),.int .i64 (f 2),.int .i64 (f 3),.int .i64 (f 4)] 1).run Tryz.prog W=.ok (.int .i64 (f 1)) W:=fun W=>zT W [.int .i64 (f 0),.int .i64 (f 1),.int .i64 (f 2),.int .i64 (f 3),.int .i64 (f 4)] 1 _ rfl
 have pf2:∀W:World,(part 3 #[.int .i64 (f 0),.int .i64 (f 1),.int .i64 (f 2),.int .i64 (f 3),.int .i64 (f 4)] 2).run Tryz.prog W=.ok (.int .i64 (f 2)) W:=fun W=>zT W [.int .i64 (f 0),.int .i64 (f 1),.int .i64 (f 2),.int .i64 (f 3),.int .i64 (f 4)] 2 _ rfl
 have pf3:∀W:World,(part 3 #[.int .i64 (f 0),.int .i64 (f 1),.int .i64 (f 2),.int .i64 (f 3),.int .i64 (f 4)] 3).run Tryz.prog W=.ok (.int .i64 (f 3)) W:=fun W=>zT W [.int .i64 (f 0),.int .i64 (f 1),.int .i64 (f 2),.int .i64 (f 3),.int .i64 (f 4)] 3 _ rfl
 have pf4:∀W:World,(part 3 #[.int .i64 (f 0),.int .i64 (f 1),.int .i64 (f 2),.int .i64 (f 3),.int .i64 (f 4)] 4).run Tryz.prog W=.ok (.int .i64 (f 4)) W:=fun W=>zT W [.int .i64 (f 0),.int .i64 (f 1),.int .i64 (f 2),.int .i64 (f 3),.int .i64 (f 4)] 4 _ rfl
 have pg0:∀W:World,(part 3 #[.int .i64 (g 0),.int .i64 (g 1),.int .i64 (g 2),.int .i64 (g 3),.int .i64 (g 4)] 0).run Tryz.prog W=.ok (.int .i64 (g 0)) W:=fun W=>zT W [.int .i64 (g 0),.int .i64 (g 1),.int .i64 (g 2),.int .i64 (g 3),.int .i64 (g 4)] 0 _ rfl
 have pg1:∀W:World,(part 3 #[.int .i64 (g 0),.int .i64 (g 1),.int .i64 (g 2),.int .i64 (g 3),.int .i64 (g 4)] 1).run Tryz.prog W=.ok (.int .i64 (g 1)) W:=fun W=>zT W [.int .i64 (g 0),.int .i64 (g 1),.int .i64 (g 2),.int .i64 (g 3),.int .i64 (g 4)] 1 _ rfl
 have pg2:∀W:World,(part 3 #[.int .i64 (g 0),.int .i64 (g 1),.int .i64 (g 2),.int .i64 (g 3),.int .i64 (g 4)] 2).run Tryz.prog W=.ok (.int .i64 (g 2)) W:=fun W=>zT W [.int .i64 (g 0),.int .i64 (g 1),.int .i64 (g 2),.int .i64 (g 3),.int .i64 (g 4)] 2 _ rfl
 have pg3:∀W:World,(part 3 #[.int .i64 (g 0),.int .i64 (g 1),.int .i64 (g 2),.int .i64 (g 3),.int .i64 (g 4)] 3).run Tryz.prog W=.ok (.int .i64 (g 3)) W:=fun W=>zT W [.int .i64 (g 0),.int .i64 (g 1),.int .i64 (g 2),.int .i64 (g 3),.int .i64 (g 4)] 3 _ rfl
 have pg4:∀W:World,(part 3 #[.int .i64 (g 0),.int .i64 (g 1),.int .i64 (g 2),.int .i64 (g 3),.int .i64 (g 4)] 4).run Tryz.prog W=.ok (.int .i64 (g 4)) W:=fun W=>zT W [.int .i64 (g 0),.int .i64 (g 1),.int .i64 (g 2),.int .i64 (g 3),.int .i64 (g 4)] 4 _ rfl
 have he:∀(W:World) (a b:Int),(Op.equalIn (d+1) 3 (.int .i64 a) (.int .i64 b)).run Tryz.prog W=.ok (a==b) W:=fun W a b=>run_equalIn_int W d _ _ _ a b Tryz.underlying3
 rw[Op.equalIn]
 simp[run_underlying Tryz.underlying70,sizeOf,typeInfo,hi,hz2,Std.Legacy.Range.forIn_eq_forIn_range',List.range',Std.Legacy.Range.size]
 simp only[pf0,pf1,pf2,pf3,pf4,pg0,pg1,pg2,pg3,pg4,he,Result.andThen_ok]
 cases f 0==g 0<;>cases f 1==g 1<;>cases f 2==g 2<;>cases f 3==g 3<;>cases f 4==g 4<;>rfl
theorem zf9 (W:World) (a:List Int):(part 70 #[.int .i64 (nth a 0),.int .i64 (nth a 1),.int .i64 (nth a 2),.int .i64 (nth a 3),.int .i64 (nth a 4),.int .i64 (nth a 5)] 1).run Tryz.prog W=.ok (.agg #[.int .i64 (nth a 1),.int .i64 (nth a 2),.int .i64 (nth a 3),.int .i64 (nth a 4),.int .i64 (nth a 5)]) W:=by
 obtain ⟨i,hi,hz⟩:=zE (T:=70) (z:=5) (by kernel_rfl)
 simp[part,sizeOf,typeInfo,hi,hz,Tryz.underlying70,run_underlying]
theorem zf5 (W:World) (a:List Int):(part 70 #[.int .i64 (nth a 0),.int .i64 (nth a 1),.int .i64 (nth a 2),.int .i64 (nth a 3),.int .i64 (nth a 4),.int .i64 (nth a 5),.int .i64 (nth a 6),.int .i64 (nth a 7)] 3).run Tryz.prog W=.ok (.agg #[.int .i64 (nth a 3),.int .i64 (nth a 4),.int .i64 (nth a 5),.int .i64 (nth a 6),.int .i64 (nth a 7)]) W:=by
 obtain ⟨i,hi,hz⟩:=zE (T:=70) (z:=5) (by kernel_rfl)
 simp[part,sizeOf,typeInfo,hi,hz,Tryz.underlying70,run_underlying]
theorem zgi (W:World) (a:List Int):(part 114 #[.int .i64 (nth a 0),.int .i64 (nth a 1),.int .i64 (nth a 2),.int .i64 (nth a 3),.int .i64 (nth a 4),.int .i64 (nth a 5),.int .i64 (nth a 6)] 0).run Tryz.prog W=.ok (.agg #[.int .i64 (nth a 0),.int .i64 (nth a 1),.int .i64 (nth a 2),.int .i64 (nth a 3),.int .i64 (nth a 4),.int .i64 (nth a 5)]) W:=by
 obtain ⟨i,hi,hz⟩:=zE (T:=114) (z:=6) (by kernel_rfl)
 simp[part,sizeOf,typeInfo,hi,hz,Tryz.underlying114,run_underlying]
theorem zga (W:World) (a:List Int):(part 116 #[.int .i64 (nth a 0),.int .i64 (nth a 1),.int .i64 (nth a 2),.int .i64 (nth a 3),.int .i64 (nth a 4),.int .i64 (nth a 5),.int .i64 (nth a 6),.int .i64 (nth a 7)] 0).run Tryz.prog W=.ok (.agg #[.int .i64 (nth a 0),.int .i64 (nth a 1),.int .i64 (nth a 2),.int .i64 (nth a 3),.int .i64 (nth a 4),.int .i64 (nth a 5),.int .i64 (nth a 6)]) W:=by
 obtain ⟨i,hi,hz⟩:=zE (T:=116) (z:=7) (by kernel_rfl)
 simp[part,sizeOf,typeInfo,hi,hz,Tryz.underlying116,run_underlying]
theorem xV (d:Nat) (a b:List Int) (W:World):(Op.equalIn (d+3) 114 (.agg #[.int .i64 (nth a 0),.int .i64 (nth a 1),.int .i64 (nth a 2),.int .i64 (nth a 3),.int .i64 (nth a 4),.int .i64 (nth a 5)]) (.agg #[.int .i64 (nth b 0),.int .i64 (nth b 1),.int .i64 (nth b 2),.int .i64 (nth b 3),.int .i64 (nth b 4),.int .i64 (nth b 5)])).run Tryz.prog W=.ok (eqN 6 a b) W:=by
 have hF : (Tryz.prog.fieldsOf 114).toList.map (fun f => (f.name, f.type, f.offset)) = [("N", 3, 0), ("Hears", 70, 1)] := by kernel_rfl
 rw[run_equalIn_struct W (d+2) 114 _ _ (by kernel_rfl) (by kernel_rfl)]
 obtain ⟨x0,x1,hab⟩:∃x0 x1,(Tryz.prog.fieldsOf 114).toList=[x0,x1]:=by
  have:=congrArg List.length hF
  simp only[List.length_map,List.length_cons,List.length_nil]at this
  match h:(Tryz.prog.fieldsOf 114).toList,this with
  | [x0,x1],_=>exact ⟨x0,x1,rfl⟩
 rw[hab]at hF ⊢
 simp only[List.map_cons,List.map_nil,List.cons.injEq,Prod.mk.injEq,and_true]at hF
 obtain ⟨⟨n0,t0,o0⟩,n1,t1,o1⟩:=hF
 have q0:∀(W:World) (a:List Int),(part 3 #[.int .i64 (nth a 0),.int .i64 (nth a 1),.int .i64 (nth a 2),.int .i64 (nth a 3),.int .i64 (nth a 4),.int .i64 (nth a 5)] 0).run Tryz.prog W=.ok (.int .i64 (nth a 0)) W:=fun W a=>zT W [.int .i64 (nth a 0),.int .i64 (nth a 1),.int .i64 (nth a 2),.int .i64 (nth a 3),.int .i64 (nth a 4),.int .i64 (nth a 5)] 0 _ rfl
 have h5:=fun W=>Qs d (fun i=>nth a (i+1)) (fun i=>nth b (i+1)) W
 simp only[Nat.zero_add,Nat.reduceAdd]at h5
 have he:∀(W:World) (a b:Int),(Op.equalIn (d+2) 3 (.int .i64 a) (.int .i64 b)).run Tryz.prog W=.ok (a==b) W:=fun W a b=>run_equalIn_int W (d+1) _ _ _ a b Tryz.underlying3
 simp only[Op.eqFields,n0,t0,o0,q0,n1,t1,o1,zf9,h5,Sem.run_ite,Sem.run_bind,he,Result.andThen_ok,Sem.run_pure,ne_eq,String.reduceEq,not_false_eq_true,if_true]
 simp only[eqN,allN,Bool.true_and]
 cases nth a 0==nth b 0<;>cases nth a 1==nth b 1<;>cases nth a 2==nth b 2<;>cases nth a 3==nth b 3<;>cases nth a 4==nth b 4<;>cases nth a 5==nth b 5<;>rfl
theorem ZJ (d:Nat) (a b:List Int) (W:World):(Op.equalIn (d+3) 72 (.agg #[.int .i64 (nth a 0),.int .i64 (nth a 1),.int .i64 (nth a 2),.int .i64 (nth a 3),.int .i64 (nth a 4),.int .i64 (nth a 5),.int .i64 (nth a 6),.int .i64 (nth a 7)]) (.agg #[.int .i64 (nth b 0),.int .i64 (nth b 1),.int .i64 (nth b 2),.int .i64 (nth b 3),.int .i64 (nth b 4),.int .i64 (nth b 5),.int .i64 (nth b 6),.int .i64 (nth b 7)])).run Tryz.prog W=.ok (eqN 8 a b) W:=by
 have hF : (Tryz.prog.fieldsOf 72).toList.map (fun f => (f.name, f.type, f.offset)) = [("Proc", 3, 0), ("Round", 3, 1), ("Input", 3, 2), ("Heard", 70, 3)] := by kernel_rfl
 rw[run_equalIn_struct W (d+2) 72 _ _ (by kernel_rfl) (by kernel_rfl)]
 obtain ⟨x0,x1,x2,x3,hab⟩:∃x0 x1 x2 x3,(Tryz.prog.fieldsOf 72).toList=[x0,x1,x2,x3]:=by
  have:=congrArg List.length hF
  simp only[List.length_map,List.length_cons,List.length_nil]at this
  match h:(Tryz.prog.fieldsOf 72).toList,this with
  | [x0,x1,x2,x3],_=>exact ⟨x0,x1,x2,x3,rfl⟩
 rw[hab]at hF ⊢
 simp only[List.map_cons,List.map_nil,List.cons.injEq,Prod.mk.injEq,and_true]at hF
 obtain ⟨⟨n0,t0,o0⟩,⟨n1,t1,o1⟩,⟨n2,t2,o2⟩,n3,t3,o3⟩:=hF
 have q0:∀(W:World) (a:List Int),(part 3 #[.int .i64 (nth a 0),.int .i64 (nth a 1),.int .i64 (nth a 2),.int .i64 (nth a 3),.int .i64 (nth a 4),.int .i64 (nth a 5),.int .i64 (nth a 6),.int .i64 (nth a 7)] 0).run Tryz.prog W=.ok (.int .i64 (nth a 0)) W:=fun W a=>zT W [.int .i64 (nth a 0),.int .i64 (nth a 1),.int .i64 (nth a 2),.int .i64 (nth a 3),.int .i64 (nth a 4),.int .i64 (nth a 5),.int .i64 (nth a 6),.int .i64 (nth a 7)] 0 _ rfl
 have q1:∀(W:World) (a:List Int),(part 3 #[.int .i64 (nth a 0),.int .i64 (nth a 1),.int .i64 (nth a 2),.int .i64 (nth a 3),.int .i64 (nth a 4),.int .i64 (nth a 5),.int .i64 (nth a 6),.int .i64 (nth a 7)] 1).run Tryz.prog W=.ok (.int .i64 (nth a 1)) W:=fun W a=>zT W [.int .i64 (nth a 0),.int .i64 (nth a 1),.int .i64 (nth a 2),.int .i64 (nth a 3),.int .i64 (nth a 4),.int .i64 (nth a 5),.int .i64 (nth a 6),.int .i64 (nth a 7)] 1 _ rfl
 have q2:∀(W:World) (a:List Int),(part 3 #[.int .i64 (nth a 0),.int .i64 (nth a 1),.int .i64 (nth a 2),.int .i64 (nth a 3),.int .i64 (nth a 4),.int .i64 (nth a 5),.int .i64 (nth a 6),.int .i64 (nth a 7)] 2).run Tryz.prog W=.ok (.int .i64 (nth a 2)) W:=fun W a=>zT W [.int .i64 (nth a 0),.int .i64 (nth a 1),.int .i64 (nth a 2),.int .i64 (nth a 3),.int .i64 (nth a 4),.int .i64 (nth a 5),.int .i64 (nth a 6),.int .i64 (nth a 7)] 2 _ rfl
 have h5:=fun W=>Qs d (fun i=>nth a (i+3)) (fun i=>nth b (i+3)) W
 simp only[Nat.zero_add,Nat.reduceAdd]at h5
 have he:∀(W:World) (a b:Int),(Op.equalIn (d+2) 3 (.int .i64 a) (.int .i64 b)).run Tryz.prog W=.ok (a==b) W:=fun W a b=>run_equalIn_int W (d+1) _ _ _ a b Tryz.underlying3
 simp only[Op.eqFields,n0,t0,o0,q0,n1,t1,o1,q1,n2,t2,o2,q2,n3,t3,o3,zf5,h5,Sem.run_ite,Sem.run_bind,he,Result.andThen_ok,Sem.run_pure,ne_eq,String.reduceEq,not_false_eq_true,if_true]
 simp only[eqN,allN,Bool.true_and]
 simp only[Bool.and_assoc]
 generalize (nth a 3==nth b 3&&(nth a 4==nth b 4&&(nth a 5==nth b 5&&(nth a 6==nth b 6&&nth a 7==nth b 7))))=c
 cases nth a 0==nth b 0<;>cases nth a 1==nth b 1<;>cases nth a 2==nth b 2<;>cases c<;>rfl
theorem qD (d:Nat) (a b:List Int) (W:World):(Op.equalIn (d+4) 116 (.agg #[.int .i64 (nth a 0),.int .i64 (nth a 1),.int .i64 (nth a 2),.int .i64 (nth a 3),.int .i64 (nth a 4),.int .i64 (nth a 5),.int .i64 (nth a 6)]) (.agg #[.int .i64 (nth b 0),.int .i64 (nth b 1),.int .i64 (nth b 2),.int .i64 (nth b 3),.int .i64 (nth b 4),.int .i64 (nth b 5),.int .i64 (nth b 6)])).run Tryz.prog W=.ok (eqN 7 a b) W:=by
 have hF : (Tryz.prog.fieldsOf 116).toList.map (fun f => (f.name, f.type, f.offset)) = [("Graph", 114, 0), ("Faulty", 3, 6)] := by kernel_rfl
 rw[run_equalIn_struct W (d+3) 116 _ _ (by kernel_rfl) (by kernel_rfl)]
 obtain ⟨x0,x1,hab⟩:∃x0 x1,(Tryz.prog.fieldsOf 116).toList=[x0,x1]:=by
  have:=congrArg List.length hF
  simp only[List.length_map,List.length_cons,List.length_nil]at this
  match h:(Tryz.prog.fieldsOf 116).toList,this with
  | [x0,x1],_=>exact ⟨x0,x1,rfl⟩
 rw[hab]at hF ⊢
 simp only[List.map_cons,List.map_nil,List.cons.injEq,Prod.mk.injEq,and_true]at hF
 obtain ⟨⟨n0,t0,o0⟩,n1,t1,o1⟩:=hF
 have h5:=fun W=>xV d a b W
 have q1:∀(W:World) (a:List Int),(part 3 #[.int .i64 (nth a 0),.int .i64 (nth a 1),.int .i64 (nth a 2),.int .i64 (nth a 3),.int .i64 (nth a 4),.int .i64 (nth a 5),.int .i64 (nth a 6)] 6).run Tryz.prog W=.ok (.int .i64 (nth a 6)) W:=fun W a=>zT W [.int .i64 (nth a 0),.int .i64 (nth a 1),.int .i64 (nth a 2),.int .i64 (nth a 3),.int .i64 (nth a 4),.int .i64 (nth a 5),.int .i64 (nth a 6)] 6 _ rfl
 have he:∀(W:World) (a b:Int),(Op.equalIn (d+3) 3 (.int .i64 a) (.int .i64 b)).run Tryz.prog W=.ok (a==b) W:=fun W a b=>run_equalIn_int W (d+2) _ _ _ a b Tryz.underlying3
 simp only[Op.eqFields,n0,t0,o0,zgi,h5,n1,t1,o1,q1,Sem.run_ite,Sem.run_bind,he,Result.andThen_ok,Sem.run_pure,ne_eq,String.reduceEq,not_false_eq_true,if_true]
 simp only[eqN,allN,Bool.true_and]
 cases nth a 0==nth b 0<;>cases nth a 1==nth b 1<;>cases nth a 2==nth b 2<;>cases nth a 3==nth b 3<;>cases nth a 4==nth b 4<;>cases nth a 5==nth b 5<;>cases nth a 6==nth b 6<;>rfl
theorem zcH (d:Nat) (a b:List Int) (W:World):(Op.equalIn (d+5) 118 (.agg #[.int .i64 (nth a 0),.int .i64 (nth a 1),.int .i64 (nth a 2),.int .i64 (nth a 3),.int .i64 (nth a 4),.int .i64 (nth a 5),.int .i64 (nth a 6),.int .i64 (nth a 7)]) (.agg #[.int .i64 (nth b 0),.int .i64 (nth b 1),.int .i64 (nth b 2),.int .i64 (nth b 3),.int .i64 (nth b 4),.int .i64 (nth b 5),.int .i64 (nth b 6),.int .i64 (nth b 7)])).run Tryz.prog W=.ok (eqN 8 a b) W:=by
 have hF : (Tryz.prog.fieldsOf 118).toList.map (fun f => (f.name, f.type, f.offset)) = [("Round", 116, 0), ("To", 3, 7)] := by kernel_rfl
 rw[run_equalIn_struct W (d+4) 118 _ _ (by kernel_rfl) (by kernel_rfl)]
 obtain ⟨x0,x1,hab⟩:∃x0 x1,(Tryz.prog.fieldsOf 118).toList=[x0,x1]:=by
  have:=congrArg List.length hF
  simp only[List.length_map,List.length_cons,List.length_nil]at this
  match h:(Tryz.prog.fieldsOf 118).toList,this with
  | [x0,x1],_=>exact ⟨x0,x1,rfl⟩
 rw[hab]at hF ⊢
 simp only[List.map_cons,List.map_nil,List.cons.injEq,Prod.mk.injEq,and_true]at hF
 obtain ⟨⟨n0,t0,o0⟩,n1,t1,o1⟩:=hF
 have h5:=fun W=>qD d a b W
 have q1:∀(W:World) (a:List Int),(part 3 #[.int .i64 (nth a 0),.int .i64 (nth a 1),.int .i64 (nth a 2),.int .i64 (nth a 3),.int .i64 (nth a 4),.int .i64 (nth a 5),.int .i64 (nth a 6),.int .i64 (nth a 7)] 7).run Tryz.prog W=.ok (.int .i64 (nth a 7)) W:=fun W a=>zT W [.int .i64 (nth a 0),.int .i64 (nth a 1),.int .i64 (nth a 2),.int .i64 (nth a 3),.int .i64 (nth a 4),.int .i64 (nth a 5),.int .i64 (nth a 6),.int .i64 (nth a 7)] 7 _ rfl
 have he:∀(W:World) (a b:Int),(Op.equalIn (d+4) 3 (.int .i64 a) (.int .i64 b)).run Tryz.prog W=.ok (a==b) W:=fun W a b=>run_equalIn_int W (d+3) _ _ _ a b Tryz.underlying3
 simp only[Op.eqFields,n0,t0,o0,zga,h5,n1,t1,o1,q1,Sem.run_ite,Sem.run_bind,he,Result.andThen_ok,Sem.run_pure,ne_eq,String.reduceEq,not_false_eq_true,if_true]
 simp only[eqN,allN,Bool.true_and]
 cases (((((((nth a 0==nth b 0&&nth a 1==nth b 1)&&nth a 2==nth b 2)&&nth a 3==nth b 3)&&nth a 4==nth b 4)&&nth a 5==nth b 5)&&nth a 6==nth b 6))<;>cases nth a 7==nth b 7<;>simp_all
end Go.Proofs.YtfjlhjkjjbiliaaGreat
