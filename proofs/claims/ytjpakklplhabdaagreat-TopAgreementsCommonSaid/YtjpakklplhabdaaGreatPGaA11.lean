/- Part of the proof that the laws answer true for every input. -/
import Derived.Test.YtjpakklplhabdaaGreatPGaA09
set_option linter.unusedSimpArgs false
set_option linter.unnecessarySimpa false
set_option linter.unusedVariables false
set_option maxRecDepth 100000
set_option maxHeartbeats 40000000
namespace Go.Proofs.YtjpakklplhabdaaGreat
open Go.RowKit
attribute [local go_sem ↓] Go.wp_at_zero Go.wp_at_succ
theorem zbh (w:World) {n:Nat} (hn:n≤5):Calls Tryz.prog 155 #[.int .i64 n] w (QuietP w (.int .i64 ((2 ^ n:Nat) - 1:Int))):=by
 go_enter Tryz.func155,Tryz.ntmps155
 go_wp2
 go_ret
 refine .of (zi ?_) 0
 have:n=0∨n=1∨n=2∨n=3∨n=4∨n=5:=by omega
 rcases this with rfl | rfl | rfl | rfl | rfl | rfl<;>decide+kernel
theorem zb8 {a p:Nat}:(bits .and .i64 ((a:Int) / 2 ^ p) 1==0)= !a.testBit p:=by
 have h:=zaH a p
 have h1:bits .and .i64 ((a:Int) / 2 ^ p) 1=0∨bits .and .i64 ((a:Int) / 2 ^ p) 1=1:=by
  have h2:(BitVec.ofInt 64 1).toNat=2 ^ 1 - 1:=by decide
  have h3:((a:Int) / 2 ^ p)=((a / 2 ^ p:Nat):Int):=by simp
  have key:bits .and .i64 ((a / 2 ^ p:Nat):Int) 1=((a / 2 ^ p % 2:Nat):Int):=by
   show IntKind.i64.wrap ((BitVec.ofInt 64 ((a / 2 ^ p:Nat):Int)&&&BitVec.ofInt 64 1).toNat:Nat)=_
   rw[BitVec.toNat_and,h2,Nat.and_two_pow_sub_one_eq_mod,BitVec.ofInt_natCast,BitVec.toNat_ofNat,IntKind.wrap_i64]
   omega
  rw[h3,key]
  omega
 rcases h1 with h1 | h1
 ·rw[h1]at h ⊢;rw[←h];rfl
 ·rw[h1]at h ⊢;rw[←h];rfl
def chkG (n:Int) (f:Nat→Int):Int:=if n<1∨5<n then 2 else firstE (fun p=>gAt n p (f p)) 5
theorem zc1 {m:Nat} {f:Nat→Int} (h1:1≤m) (h5:m≤5):chkG m f=firstE (fun p=>gAt m p (f p)) 5:=by
 unfold chkG;rw[if_neg (by omega)]
theorem YK {m p:Nat} {x:Int} (h:¬p<m):gAt m p x=if x=0 then 0 else 3:=by unfold gAt;rw[if_pos (by omega)]
theorem zcF {m p:Nat} {x:Int} (h:p<m) (hx:x<0):gAt m p x=2:=by unfold gAt;rw[if_neg (by omega),if_pos (.inl hx)]
theorem zcX {m p a:Nat} (h:p<m) (hx:2 ^ m≤a):gAt m p (a:Int)=2:=by
 unfold gAt;rw[if_neg (by omega),if_pos]
 right
 show ((2 ^ m:Nat):Int) - 1<a
 omega
theorem zcv {m p a:Nat} (h:p<m) (hx:a<2 ^ m):gAt m p (a:Int)=if a.testBit p then 0 else 3:=by
 unfold gAt;rw[if_neg (by omega),if_neg]
 ·rfl
 ·show¬((a:Int)<0∨((2 ^ m:Nat):Int) - 1<a)
  omega
theorem YP (w:World) (n:Int) (f:Nat→Int):Calls Tryz.prog 152 #[gV n f] w (Post w fun _ r=>r=.int .i64 (chkG n f)):=by
 unfold gV
 have ex:=zb w (.cells #[.int .i64 n,.int .i64 (f 0),.int .i64 (f 1),.int .i64 (f 2),.int .i64 (f 3),.int .i64 (f 4)] 65)
 have rg:=Row.graph w n f
 by_cases h1:n<1
 ·rw[show chkG n f=2 by unfold chkG;rw[if_pos (.inl h1)]]
  go_enter Tryz.func152,Tryz.ntmps152
  go_wp2
  go_ret
  exact .mk ex rfl
 by_cases h2:5<n
 ·rw[show chkG n f=2 by unfold chkG;rw[if_pos (.inr h2)]]
  go_enter Tryz.func152,Tryz.ntmps152
  go_wp2
  go_ret
  exact .mk ex rfl
 obtain ⟨m,rfl⟩:∃m:Nat,n=m:=⟨n.toNat,by omega⟩
 rw[zc1 (by omega) (by omega)]
 have HF:=zhd fun W=>((Zo W (show m≤5 by omega)).mono fun _ _ h=>h.take)
 obtain ⟨z,hz⟩:∃z,z=2 ^ m:=⟨_,rfl⟩
 have HZ:=zhd hz
 have hzs:z≤32∧1≤z:=by rw[hz];exact yS (by omega)
 rw[←hz]at HF
 clear hz
 obtain ⟨hz1,hz2⟩:=hzs
 obtain ⟨r,hr⟩:∃r,r=firstE (fun p=>gAt (m:Int) p (f p)) 5:=⟨_,rfl⟩
 rw[←hr]
 have HRR:=zhd hr
 clear hr
 have HI:=zhd fun p hp W=>Ym f (p:=p) hp W
 go_enter Tryz.func152,Tryz.ntmps152
 go_wp2
 go_loopw [3,4] (fun i _ wr=>∃k:Nat,k≤5∧i=.int .i64 k∧Below w.heap.size w wr∧Row wr w.heap.size 65 (gC m f)∧Hid (Zeros (fun p=>gAt (m:Int) p (f p)) k)) (fun i _ _=>5 - (intOf i).toNat)
 case atStart=>exact ⟨0,Nat.zero_le _,rfl,ex,rg,zhd (.zero _)⟩
 case round=>
  clear ex rg
  obtain ⟨k,hk,rfl,hb,R,HG⟩:=hrel
  by_cases hlt:k<5
  ·have q:=qg w.heap.size hlt
   have ck:=R.hear hlt
   obtain ⟨c0,_⟩:=R.six
   have hW:=R.lt
   obtain ⟨x,hx⟩:∃x,x=f k:=⟨_,rfl⟩
   rw[←hx]at ck
   have NX:Hid (gAt (m:Int) k x=0→Zeros (fun p=>gAt (m:Int) p (f p)) (k+1)):=zhd fun h=>HG.out.next (by show gAt _ k (f k)=0;rw[←hx];exact h)
   have NO:Hid (∀e,gAt (m:Int) k x=e→e≠0→r=e):=zhd fun e h h0=>by
    rw[HRR.out]
    exact HG.out.stop (by show gAt _ k (f k)=e;rw[←hx];exact h) h0 hlt
   clear hx
   by_cases hkm:k<m
   ·by_cases hx0:x<0
    ·have RR:=zhd (NO.out 2 (zcF hkm hx0) (by decide))
     go_wp2
     go_ret
     exact .mk hb (zi RR.out.symm)
    obtain ⟨a,rfl⟩:∃a:Nat,x=a:=⟨x.toNat,by omega⟩
    by_cases hxz:z≤a
    ·have RR:=zhd (NO.out 2 (zcX hkm (by rw[←HZ.out];exact hxz)) (by decide))
     go_wp2_with fail
     refine (HF.out _).mono ?_
     rintro _ w1 ⟨_,rfl,hq1,rfl⟩
     have hb1:=hb.trans (hq1.ext.mono hb.size)
     go_wp2
     go_ret
     exact .mk hb1 (zi RR.out.symm)
    ·have GB:=zcv (m:=m) (p:=k) (a:=a) hkm (by rw[←HZ.out];omega)
     have KB:=zhd fun W=>((yE W (show a<4294967296 by omega) (show k≤5 by omega)).mono fun _ _ h=>h.take)
     have BI:=zb8 (a:=a) (p:=k)
     obtain ⟨b,hbb⟩:∃b,b=a.testBit k:=⟨_,rfl⟩
     rw[←hbb]at KB GB BI
     have HGB:=zhd GB
     have HBI:=zhd BI
     clear hbb GB BI
     go_wp2_with fail
     refine (HF.out _).mono ?_
     rintro _ w1 ⟨_,rfl,hq1,rfl⟩
     have hb1:=hb.trans (hq1.ext.mono hb.size)
     have R1:=R.ext hq1.ext
     clear q c0 ck
     go_wp2_with fail
     refine (KB.out _).mono ?_
     rintro _ w2 ⟨_,rfl,hq2,rfl⟩
     have hb2:=hb1.trans (hq2.ext.mono hb1.size)
     have R2:=R1.ext hq2.ext
     cases b with
     | false=>
      have RR:=zhd (NO.out 3 (by rw[HGB.out];rfl) (by decide))
      go_wp2
      go_ret
      exact .mk hb2 (zi RR.out.symm)
     | true=>
      have HG2:=zhd (NX.out (by rw[HGB.out];rfl))
      go_wp2
      go_roundw
      case rel=>exact ⟨k+1,by omega,by go_num,hb2,R2,HG2⟩
      case measure=>simp[intOf];omega
   ·by_cases hx0:x=0
    ·subst hx0
     have HG2:=zhd (NX.out (by rw[YK hkm];rfl))
     go_wp2
     go_roundw
     case rel=>exact ⟨k+1,by omega,by go_num,hb,R,HG2⟩
     case measure=>simp[intOf];omega
    ·have hne:(x !=0)=true:=by simp[hx0]
     have RR:=zhd (NO.out 3 (by rw[YK hkm,if_neg hx0]) (by decide))
     clear hx0
     go_wp2
     go_ret
     exact .mk hb (zi RR.out.symm)
  ·obtain rfl:k=5:=by omega
   have RR:Hid (r=0):=zhd (by rw[HRR.out];exact HG.out.done (by omega))
   go_wp2
   go_ret
   exact .mk hb (zi RR.out.symm)
theorem YJ (w:World) (n:Int) (f:Nat→Int):Calls Tryz.prog 149 #[gV n f] w (Post w fun _ r=>r=.int .i64 (chkG n f)):=by
 unfold gV
 have ex:=zb w (.cells #[.int .i64 n,.int .i64 (f 0),.int .i64 (f 1),.int .i64 (f 2),.int .i64 (f 3),.int .i64 (f 4)] 65)
 have rg:=Row.graph w n f
 by_cases h1:n<1
 ·rw[show chkG n f=2 by unfold chkG;rw[if_pos (.inl h1)]]
  go_enter Tryz.func149,Tryz.ntmps149
  go_wp2
  go_ret
  exact .mk ex rfl
 by_cases h2:5<n
 ·rw[show chkG n f=2 by unfold chkG;rw[if_pos (.inr h2)]]
  go_enter Tryz.func149,Tryz.ntmps149
  go_wp2
  go_ret
  exact .mk ex rfl
 obtain ⟨m,rfl⟩:∃m:Nat,n=m:=⟨n.toNat,by omega⟩
 rw[zc1 (by omega) (by omega)]
 have HF:=zhd fun W=>((zbh W (show m≤5 by omega)).mono fun _ _ h=>h.take)
 obtain ⟨z,hz⟩:∃z,z=2 ^ m:=⟨_,rfl⟩
 have HZ:=zhd hz
 have hzs:z≤32∧1≤z:=by rw[hz];exact yS (by omega)
 rw[←hz]at HF
 clear hz
 obtain ⟨hz1,hz2⟩:=hzs
 obtain ⟨r,hr⟩:∃r,r=firstE (fun p=>gAt (m:Int) p (f p)) 5:=⟨_,rfl⟩
 rw[←hr]
 have HRR:=zhd hr
 clear hr
 have HI:=zhd fun p hp W=>Ym f (p:=p) hp W
 go_enter Tryz.func149,Tryz.ntmps149
 go_wp2
 go_loopw [3,4,15] (fun _ _ i wr=>∃k:Nat,k≤5∧i=.int .i64 k∧Below w.heap.size w wr∧Row wr w.heap.size 65 (gC m f)∧Hid (Zeros (fun p=>gAt (m:Int) p (f p)) k)) (fun _ _ i _=>5 - (intOf i).toNat)
 case atStart=>exact ⟨0,Nat.zero_le _,rfl,ex,rg,zhd (.zero _)⟩
 case round=>
  clear ex rg
  obtain ⟨k,hk,rfl,hb,R,HG⟩:=hrel
  by_cases hlt:k<5
  ·have q:=HI.out k hlt
   obtain ⟨c0,_⟩:=R.six
   have hW:=R.lt
   obtain ⟨x,hx⟩:∃x,x=f k:=⟨_,rfl⟩
   rw[←hx]at q
   have NX:Hid (gAt (m:Int) k x=0→Zeros (fun p=>gAt (m:Int) p (f p)) (k+1)):=zhd fun h=>HG.out.next (by show gAt _ k (f k)=0;rw[←hx];exact h)
   have NO:Hid (∀e,gAt (m:Int) k x=e→e≠0→r=e):=zhd fun e h h0=>by
    rw[HRR.out]
    exact HG.out.stop (by show gAt _ k (f k)=e;rw[←hx];exact h) h0 hlt
   clear hx
   by_cases hkm:k<m
   ·by_cases hx0:x<0
    ·have RR:=zhd (NO.out 2 (zcF hkm hx0) (by decide))
     go_wp2
     go_ret
     exact .mk hb (zi RR.out.symm)
    obtain ⟨a,rfl⟩:∃a:Nat,x=a:=⟨x.toNat,by omega⟩
    by_cases hxz:z≤a
    ·have RR:=zhd (NO.out 2 (zcX hkm (by rw[←HZ.out];exact hxz)) (by decide))
     go_wp2_with fail
     refine (HF.out _).mono ?_
     rintro _ w1 ⟨_,rfl,hq1,rfl⟩
     have hb1:=hb.trans (hq1.ext.mono hb.size)
     go_wp2
     go_ret
     exact .mk hb1 (zi RR.out.symm)
    ·have GB:=zcv (m:=m) (p:=k) (a:=a) hkm (by rw[←HZ.out];omega)
     have KB:=zhd fun W=>((yE W (show a<4294967296 by omega) (show k≤5 by omega)).mono fun _ _ h=>h.take)
     have BI:=zb8 (a:=a) (p:=k)
     obtain ⟨b,hbb⟩:∃b,b=a.testBit k:=⟨_,rfl⟩
     rw[←hbb]at KB GB BI
     have HGB:=zhd GB
     have HBI:=zhd BI
     clear hbb GB BI
     go_wp2_with fail
     refine (HF.out _).mono ?_
     rintro _ w1 ⟨_,rfl,hq1,rfl⟩
     have hb1:=hb.trans (hq1.ext.mono hb.size)
     have R1:=R.ext hq1.ext
     clear q c0
     have hb2:=hb1;have R2:=R1;have bi:=HBI.out
     cases b with
     | false=>
      have RR:=zhd (NO.out 3 (by rw[HGB.out];rfl) (by decide))
      simp only[Bool.not_false]at bi
      go_wp2
      go_ret
      exact .mk hb2 (zi RR.out.symm)
     | true=>
      have HG2:=zhd (NX.out (by rw[HGB.out];rfl))
      simp only[Bool.not_true]at bi
      go_wp2
      go_roundw
      case rel=>exact ⟨k+1,by omega,by go_num,hb2,R2,HG2⟩
      case measure=>simp[intOf];omega
   ·by_cases hx0:x=0
    ·subst hx0
     have HG2:=zhd (NX.out (by rw[YK hkm];rfl))
     go_wp2
     go_roundw
     case rel=>exact ⟨k+1,by omega,by go_num,hb,R,HG2⟩
     case measure=>simp[intOf];omega
    ·have hne:(x !=0)=true:=by simp[hx0]
     have RR:=zhd (NO.out 3 (by rw[YK hkm,if_neg hx0]) (by decide))
     clear hx0
     go_wp2
     go_ret
     exact .mk hb (zi RR.out.symm)
  ·obtain rfl:k=5:=by omega
   have RR:Hid (r=0):=zhd (by rw[HRR.out];exact HG.out.done (by omega))
   go_wp2
   go_ret
   exact .mk hb (zi RR.out.symm)
theorem YE (w:World) (l:List Int):Calls Tryz.prog 144 #[rL l] w (Post w fun _ r=>r=.int .i64 (checkR l)):=by
 have KG:Hid (∀W,Calls Tryz.prog 152 #[.agg #[.int .i64 (nth l 0),.int .i64 (nth l 1),.int .i64 (nth l 2),.int .i64 (nth l 3),.int .i64 (nth l 4),.int .i64 (nth l 5)]] W (Post W fun _ r=>r=.int .i64 (checkG l))):=zhd fun W=>YP W (nth l 0) fun p=>nth l (p+1)
 have KP:=zhd fun W=>((zeQ W (nth l 0) (nth l 6)).mono fun _ _ h=>h.take)
 unfold rL
 have ex:=zb w (.cells #[.int .i64 (nth l 0),.int .i64 (nth l 1),.int .i64 (nth l 2),.int .i64 (nth l 3),.int .i64 (nth l 4),.int .i64 (nth l 5),.int .i64 (nth l 6)] 67)
 have R:Row (w.alloc (.cells #[.int .i64 (nth l 0),.int .i64 (nth l 1),.int .i64 (nth l 2),.int .i64 (nth l 3),.int .i64 (nth l 4),.int .i64 (nth l 5),.int .i64 (nth l 6)] 67)) w.heap.size 67 [.int .i64 (nth l 0),.int .i64 (nth l 1),.int .i64 (nth l 2),.int .i64 (nth l 3),.int .i64 (nth l 4),.int .i64 (nth l 5),.int .i64 (nth l 6)]:=ze w [.int .i64 (nth l 0),.int .i64 (nth l 1),.int .i64 (nth l 2),.int .i64 (nth l 3),.int .i64 (nth l 4),.int .i64 (nth l 5),.int .i64 (nth l 6)] _
 by_cases h0:checkG l=0
 ·rw[show checkR l=checkP (nth l 0) (nth l 6) by unfold checkR;rw[if_pos h0]]
  rw[h0]at KG
  clear h0
  go_enter Tryz.func144,Tryz.ntmps144
  go_wp2_with fail
  refine (KG.out _).mono ?_
  rintro _ w1 ⟨_,rfl,hb1,rfl⟩
  have R1:=R.ext hb1
  have c0:=R1.zc 0 rfl
  have c6:=R1.zc 6 rfl
  go_wp2_with fail
  refine (KP.out _).mono ?_
  rintro _ w2 ⟨_,rfl,hq2,rfl⟩
  go_wp2
  go_ret
  exact .mk (za (za ex hb1) hq2.ext) rfl
 ·rw[show checkR l=checkG l by unfold checkR;rw[if_neg h0]]
  obtain ⟨x,hx⟩:∃x,x=checkG l:=⟨_,rfl⟩
  rw[←hx]at KG h0 ⊢
  have e0:(x !=0)=true:=by simpa using h0
  clear h0 hx
  go_enter Tryz.func144,Tryz.ntmps144
  go_wp2_with fail
  refine (KG.out _).mono ?_
  rintro _ w1 ⟨_,rfl,hb1,rfl⟩
  go_wp2
  go_ret
  exact .mk (za ex hb1) rfl
theorem YL (w:World) (l:List Int):Calls Tryz.prog 138 #[rL l] w (Post w fun _ r=>r=.int .i64 (checkR l)):=by
 have KG:Hid (∀W,Calls Tryz.prog 149 #[.agg #[.int .i64 (nth l 0),.int .i64 (nth l 1),.int .i64 (nth l 2),.int .i64 (nth l 3),.int .i64 (nth l 4),.int .i64 (nth l 5)]] W (Post W fun _ r=>r=.int .i64 (checkG l))):=zhd fun W=>YJ W (nth l 0) fun p=>nth l (p+1)
 have KP:=zhd fun W=>((zeK W (nth l 0) (nth l 6)).mono fun _ _ h=>h.take)
 unfold rL
 have ex:=zb w (.cells #[.int .i64 (nth l 0),.int .i64 (nth l 1),.int .i64 (nth l 2),.int .i64 (nth l 3),.int .i64 (nth l 4),.int .i64 (nth l 5),.int .i64 (nth l 6)] 67)
 have R:Row (w.alloc (.cells #[.int .i64 (nth l 0),.int .i64 (nth l 1),.int .i64 (nth l 2),.int .i64 (nth l 3),.int .i64 (nth l 4),.int .i64 (nth l 5),.int .i64 (nth l 6)] 67)) w.heap.size 67 [.int .i64 (nth l 0),.int .i64 (nth l 1),.int .i64 (nth l 2),.int .i64 (nth l 3),.int .i64 (nth l 4),.int .i64 (nth l 5),.int .i64 (nth l 6)]:=ze w [.int .i64 (nth l 0),.int .i64 (nth l 1),.int .i64 (nth l 2),.int .i64 (nth l 3),.int .i64 (nth l 4),.int .i64 (nth l 5),.int .i64 (nth l 6)] _
 by_cases h0:checkG l=0
 ·rw[show checkR l=checkP (nth l 0) (nth l 6) by unfold checkR;rw[if_pos h0]]
  rw[h0]at KG
  clear h0
  go_enter Tryz.func138,Tryz.ntmps138
  go_wp2_with fail
  refine (KG.out _).mono ?_
  rintro _ w1 ⟨_,rfl,hb1,rfl⟩
  have R1:=R.ext hb1
  have c0:=R1.zc 0 rfl
  have c6:=R1.zc 6 rfl
  go_wp2_with fail
  refine (KP.out _).mono ?_
  rintro _ w2 ⟨_,rfl,hq2,rfl⟩
  go_wp2
  go_ret
  exact .mk (za (za ex hb1) hq2.ext) rfl
 ·rw[show checkR l=checkG l by unfold checkR;rw[if_neg h0]]
  obtain ⟨x,hx⟩:∃x,x=checkG l:=⟨_,rfl⟩
  rw[←hx]at KG h0 ⊢
  have e0:(x !=0)=true:=by simpa using h0
  clear h0 hx
  go_enter Tryz.func138,Tryz.ntmps138
  go_wp2_with fail
  refine (KG.out _).mono ?_
  rintro _ w1 ⟨_,rfl,hb1,rfl⟩
  go_wp2
  go_ret
  exact .mk (za ex hb1) rfl
theorem QQ {a b:List Int} {n:Nat}:lexN a b (n+1)=if lexN a b n=0 then cmpI (nth a n) (nth b n) else lexN a b n:=rfl
theorem xH {a b:List Int} {n:Nat} {x:Int} (hx:cmpI (nth a 0) (nth b 0)=x) (h0:x≠0) (hn:0<n):lexN a b n=x:=
 (Zeros.zero (fun i=>cmpI (nth a i) (nth b i))).stop hx h0 hn
theorem XN (w:World) (a b:List Int):Calls Tryz.prog 154 #[gL a,gL b] w (Post w fun _ r=>r=.int .i64 (lexN a b 6)):=by
 unfold gL
 have ex:=zg (zb w (.cells #[.int .i64 (nth a 0),.int .i64 (nth a 1),.int .i64 (nth a 2),.int .i64 (nth a 3),.int .i64 (nth a 4),.int .i64 (nth a 5)] 65)) (.cells #[.int .i64 (nth b 0),.int .i64 (nth b 1),.int .i64 (nth b 2),.int .i64 (nth b 3),.int .i64 (nth b 4),.int .i64 (nth b 5)] 65)
 have R1:Row ((w.alloc (.cells #[.int .i64 (nth a 0),.int .i64 (nth a 1),.int .i64 (nth a 2),.int .i64 (nth a 3),.int .i64 (nth a 4),.int .i64 (nth a 5)] 65)).alloc (.cells #[.int .i64 (nth b 0),.int .i64 (nth b 1),.int .i64 (nth b 2),.int .i64 (nth b 3),.int .i64 (nth b 4),.int .i64 (nth b 5)] 65)) w.heap.size 65 [.int .i64 (nth a 0),.int .i64 (nth a 1),.int .i64 (nth a 2),.int .i64 (nth a 3),.int .i64 (nth a 4),.int .i64 (nth a 5)]:=(ze w [.int .i64 (nth a 0),.int .i64 (nth a 1),.int .i64 (nth a 2),.int .i64 (nth a 3),.int .i64 (nth a 4),.int .i64 (nth a 5)] _).alloc _
 have R2:Row ((w.alloc (.cells #[.int .i64 (nth a 0),.int .i64 (nth a 1),.int .i64 (nth a 2),.int .i64 (nth a 3),.int .i64 (nth a 4),.int .i64 (nth a 5)] 65)).alloc (.cells #[.int .i64 (nth b 0),.int .i64 (nth b 1),.int .i64 (nth b 2),.int .i64 (nth b 3),.int .i64 (nth b 4),.int .i64 (nth b 5)] 65)) (w.heap.size+1) 65 [.int .i64 (nth b 0),.int .i64 (nth b 1),.int .i64 (nth b 2),.int .i64 (nth b 3),.int .i64 (nth b 4),.int .i64 (nth b 5)]:=by
  have:=ze (w.alloc (.cells #[.int .i64 (nth a 0),.int .i64 (nth a 1),.int .i64 (nth a 2),.int .i64 (nth a 3),.int .i64 (nth a 4),.int .i64 (nth a 5)] 65)) [.int .i64 (nth b 0),.int .i64 (nth b 1),.int .i64 (nth b 2),.int .i64 (nth b 3),.int .i64 (nth b 4),.int .i64 (nth b 5)] 65
  rwa [World.size_alloc]at this
 by_cases h1:nth a 0<nth b 0
 ·rw[xH (xK h1) (by decide) (by decide)]
  go_enter Tryz.func154,Tryz.ntmps154
  go_wp2
  go_ret
  exact .mk ex rfl
 by_cases h2:nth b 0<nth a 0
 ·rw[xH (xO h2) (by decide) (by decide)]
  go_enter Tryz.func154,Tryz.ntmps154
  go_wp2
  go_ret
  exact .mk ex rfl
 have HZ0:Hid (Zeros (fun i=>cmpI (nth a i) (nth b i)) 1):=zhd ((Zeros.zero _).next (Zk h1 h2))
 have HRR:Hid (∀x k,Zeros (fun i=>cmpI (nth a i) (nth b i)) k→cmpI (nth a k) (nth b k)=x→x≠0→k<6→lexN a b 6=x):=zhd fun x k h hx h0 hk=>h.stop hx h0 hk
 have HR0:Hid (∀k,Zeros (fun i=>cmpI (nth a i) (nth b i)) k→6≤k→lexN a b 6=0):=zhd fun k h hk=>h.done hk
 obtain ⟨r,hr⟩:∃r,r=lexN a b 6:=⟨_,rfl⟩
 rw[←hr]at HRR HR0 ⊢
 clear hr
 go_enter Tryz.func154,Tryz.ntmps154
 go_wp2
 go_loopw [5] (fun i wr=>∃k:Nat,k≤5∧i=.int .i64 k∧Below w.heap.size w wr∧Row wr w.heap.size 65 [.int .i64 (nth a 0),.int .i64 (nth a 1),.int .i64 (nth a 2),.int .i64 (nth a 3),.int .i64 (nth a 4),.int .i64 (nth a 5)]∧Row wr (w.heap.size+1) 65 [.int .i64 (nth b 0),.int .i64 (nth b 1),.int .i64 (nth b 2),.int .i64 (nth b 3),.int .i64 (nth b 4),.int .i64 (nth b 5)]∧Hid (Zeros (fun i=>cmpI (nth a i) (nth b i)) (k+1))) (fun i _=>5 - (intOf i).toNat)
 case atStart=>exact ⟨0,Nat.zero_le _,rfl,ex,R1,R2,HZ0⟩
 case round=>
  clear ex R1 R2
  obtain ⟨k,hk,rfl,hb,R1,R2,HG⟩:=hrel
  by_cases hlt:k<5
  ·have q1:=qg w.heap.size hlt
   have q2:=qg (w.heap.size+1) hlt
   have p1:wr.cell? ⟨w.heap.size,1+k,none⟩=some (.int .i64 (nth a (k+1))):=by rcases five hlt with rfl | rfl | rfl | rfl | rfl<;>exact R1.cell rfl
   have p2:wr.cell? ⟨w.heap.size+1,1+k,none⟩=some (.int .i64 (nth b (k+1))):=by rcases five hlt with rfl | rfl | rfl | rfl | rfl<;>exact R2.cell rfl
   have NX:=zhd fun h=>HG.out.next (show cmpI (nth a (k+1)) (nth b (k+1))=0 from h)
   have NO:=zhd fun x (h:cmpI (nth a (k+1)) (nth b (k+1))=x) h0=>HRR.out x (k+1) HG.out h h0 (by omega)
   obtain ⟨x,hx⟩:∃x,x=nth a (k+1):=⟨_,rfl⟩
   obtain ⟨y,hy⟩:∃x,x=nth b (k+1):=⟨_,rfl⟩
   rw[←hx]at p1 NX NO
   rw[←hy]at p2 NX NO
   clear hx hy
   have w1:(0:Int)≤(k:Int):=by omega
   have w2:(k:Int)<5:=by omega
   by_cases hxy:x<y
   ·have RR:=zhd (NO.out (-1) (xK hxy) (by decide))
    go_wp2
    go_quiet (fail)
    go_wp2
    go_ret
    exact .mk (zx hb _) (zi RR.out.symm)
   by_cases hyx:y<x
   ·have RR:=zhd (NO.out 1 (xO hyx) (by decide))
    go_wp2
    go_quiet (fail)
    go_wp2
    go_quiet (fail)
    go_wp2
    go_ret
    exact .mk (by first | exact zx (zx hb _) _ | exact zx hb _) (zi RR.out.symm)
   ·have HG2:=zhd (NX.out (Zk hxy hyx))
    go_wp2
    go_quiet (fail)
    go_wp2
    go_quiet (fail)
    go_wp2
    go_roundw
    case rel=>exact ⟨k+1,by omega,by go_num,by first | exact zx (zx hb _) _ | exact zx hb _,R1,R2,HG2⟩
    case measure=>simp[intOf];omega
  ·obtain rfl:k=5:=by omega
   have RR:=zhd (HR0.out _ HG.out (by omega))
   go_wp2
   go_ret
   exact .mk hb (zi RR.out.symm)
theorem X7 (w:World) (a b:List Int):Calls Tryz.prog 151 #[gL a,gL b] w (Post w fun _ r=>r=.int .i64 (lexN a b 6)):=by
 have EQ:∀W:World,(Op.equalIn 10000 65 (.agg #[.int .i64 (nth a 0),.int .i64 (nth a 1),.int .i64 (nth a 2),.int .i64 (nth a 3),.int .i64 (nth a 4),.int .i64 (nth a 5)]) (.agg #[.int .i64 (nth b 0),.int .i64 (nth b 1),.int .i64 (nth b 2),.int .i64 (nth b 3),.int .i64 (nth b 4),.int .i64 (nth b 5)])).run Tryz.prog W=.ok (eqN 6 a b) W:=fun W=>qW 9997 a b W
 have EG:Tryz.prog.eqGuardType Tryz.prog.depth 65=false:=by kernel_rfl
 have KC:=zhd fun W x y=>((zdd W x y).mono fun _ _ h=>h.take)
 have KQ:=zhd fun W (n:Nat) x y=>zdd (World.drewN W n) x y
 unfold gL
 have ex:=zg (zb w (.cells #[.int .i64 (nth a 0),.int .i64 (nth a 1),.int .i64 (nth a 2),.int .i64 (nth a 3),.int .i64 (nth a 4),.int .i64 (nth a 5)] 65)) (.cells #[.int .i64 (nth b 0),.int .i64 (nth b 1),.int .i64 (nth b 2),.int .i64 (nth b 3),.int .i64 (nth b 4),.int .i64 (nth b 5)] 65)
 have R1:Row ((w.alloc (.cells #[.int .i64 (nth a 0),.int .i64 (nth a 1),.int .i64 (nth a 2),.int .i64 (nth a 3),.int .i64 (nth a 4),.int .i64 (nth a 5)] 65)).alloc (.cells #[.int .i64 (nth b 0),.int .i64 (nth b 1),.int .i64 (nth b 2),.int .i64 (nth b 3),.int .i64 (nth b 4),.int .i64 (nth b 5)] 65)) w.heap.size 65 [.int .i64 (nth a 0),.int .i64 (nth a 1),.int .i64 (nth a 2),.int .i64 (nth a 3),.int .i64 (nth a 4),.int .i64 (nth a 5)]:=(ze w [.int .i64 (nth a 0),.int .i64 (nth a 1),.int .i64 (nth a 2),.int .i64 (nth a 3),.int .i64 (nth a 4),.int .i64 (nth a 5)] _).alloc _
 have R2:Row ((w.alloc (.cells #[.int .i64 (nth a 0),.int .i64 (nth a 1),.int .i64 (nth a 2),.int .i64 (nth a 3),.int .i64 (nth a 4),.int .i64 (nth a 5)] 65)).alloc (.cells #[.int .i64 (nth b 0),.int .i64 (nth b 1),.int .i64 (nth b 2),.int .i64 (nth b 3),.int .i64 (nth b 4),.int .i64 (nth b 5)] 65)) (w.heap.size+1) 65 [.int .i64 (nth b 0),.int .i64 (nth b 1),.int .i64 (nth b 2),.int .i64 (nth b 3),.int .i64 (nth b 4),.int .i64 (nth b 5)]:=by
  have:=ze (w.alloc (.cells #[.int .i64 (nth a 0),.int .i64 (nth a 1),.int .i64 (nth a 2),.int .i64 (nth a 3),.int .i64 (nth a 4),.int .i64 (nth a 5)] 65)) [.int .i64 (nth b 0),.int .i64 (nth b 1),.int .i64 (nth b 2),.int .i64 (nth b 3),.int .i64 (nth b 4),.int .i64 (nth b 5)] 65
  rwa [World.size_alloc]at this
 by_cases he:lexN a b 6=0
 ·rw[he]
  rw[show eqN 6 a b=true by rw[YS];simpa using he]at EQ
  have e0:=EQ
  clear he
  go_enter Tryz.func151,Tryz.ntmps151
  go_wp2
  go_ret
  exact .mk ex rfl
 rw[show eqN 6 a b=false by rw[YS];simpa using he]at EQ
 have HE:=zhd he
 clear he
 by_cases h1:nth a 0=nth b 0
 ·have e1:(nth a 0 !=nth b 0)=false:=by simp[h1]
  have HZ0:Hid (Zeros (fun i=>cmpI (nth a i) (nth b i)) 1):=zhd ((Zeros.zero _).next (yN.2 h1))
  have HRR:Hid (∀x k,Zeros (fun i=>cmpI (nth a i) (nth b i)) k→cmpI (nth a k) (nth b k)=x→x≠0→k<6→lexN a b 6=x):=zhd fun x k h hx h0 hk=>h.stop hx h0 hk
  have HR0:Hid (∀k,Zeros (fun i=>cmpI (nth a i) (nth b i)) k→6≤k→lexN a b 6=0):=zhd fun k h hk=>h.done hk
  obtain ⟨r,hr⟩:∃r,r=lexN a b 6:=⟨_,rfl⟩
  rw[←hr]at HRR HR0 HE ⊢
  clear hr h1
  go_enter Tryz.func151,Tryz.ntmps151
  go_wp2
  go_loopw [20] (fun i wr=>∃k:Nat,k≤5∧i=.int .i64 k∧Below w.heap.size w wr∧Row wr w.heap.size 65 [.int .i64 (nth a 0),.int .i64 (nth a 1),.int .i64 (nth a 2),.int .i64 (nth a 3),.int .i64 (nth a 4),.int .i64 (nth a 5)]∧Row wr (w.heap.size+1) 65 [.int .i64 (nth b 0),.int .i64 (nth b 1),.int .i64 (nth b 2),.int .i64 (nth b 3),.int .i64 (nth b 4),.int .i64 (nth b 5)]∧Hid (Zeros (fun i=>cmpI (nth a i) (nth b i)) (k+1))) (fun i _=>5 - (intOf i).toNat)
  case atStart=>exact ⟨0,Nat.zero_le _,rfl,ex,R1,R2,HZ0⟩
  case round=>
   clear ex R1 R2 EQ EG e1
   obtain ⟨k,hk,rfl,hb,R1,R2,HG⟩:=hrel
   by_cases hlt:k<5
   ·have q1:=qg w.heap.size hlt
    have q2:=qg (w.heap.size+1) hlt
    have p1:wr.cell? ⟨w.heap.size,1+k,none⟩=some (.int .i64 (nth a (k+1))):=by rcases five hlt with rfl | rfl | rfl | rfl | rfl<;>exact R1.cell rfl
    have p2:wr.cell? ⟨w.heap.size+1,1+k,none⟩=some (.int .i64 (nth b (k+1))):=by rcases five hlt with rfl | rfl | rfl | rfl | rfl<;>exact R2.cell rfl
    have NX:=zhd fun h=>HG.out.next (show cmpI (nth a (k+1)) (nth b (k+1))=0 from h)
    have NO:=zhd fun x (h:cmpI (nth a (k+1)) (nth b (k+1))=x) h0=>HRR.out x (k+1) HG.out h h0 (by omega)
    obtain ⟨x,hx⟩:∃x,x=nth a (k+1):=⟨_,rfl⟩
    obtain ⟨y,hy⟩:∃x,x=nth b (k+1):=⟨_,rfl⟩
    rw[←hx]at p1 NX NO
    rw[←hy]at p2 NX NO
    have KW:=zhd fun n=>KQ.out wr n x y
    obtain ⟨c,hc⟩:∃c,c=cmpI x y:=⟨_,rfl⟩
    rw[←hc]at KW NX NO
    clear hx hy hc
    have w1:(0:Int)≤(k:Int):=by omega
    have w2:(k:Int)<5:=by omega
    by_cases h0:c=0
    ·have HG2:=zhd (NX.out h0)
     subst h0
     go_wp2
     go_quiet ((go_at_call 87;exact zr (KW.out _)))
     go_wp2
     go_roundw
     case rel=>exact ⟨k+1,by omega,by go_num,zx hb _,R1,R2,HG2⟩
     case measure=>simp[intOf];omega
    ·have RR:=zhd (NO.out c rfl h0)
     have e0:(c !=0)=true:=by simp[h0]
     clear h0
     go_wp2
     go_quiet ((go_at_call 87;exact zr (KW.out _)))
     go_wp2
     go_ret
     exact .mk (zx hb _) (zi RR.out.symm)
   ·obtain rfl:k=5:=by omega
    have RR:=zhd (HR0.out _ HG.out (by omega))
    go_wp2
    go_ret
    exact .mk hb (zi RR.out.symm)
 ·have e1:(nth a 0 !=nth b 0)=true:=by simp[h1]
  have hc0:cmpI (nth a 0) (nth b 0)≠0:=fun h=>h1 (yN.1 h)
  rw[xH rfl hc0 (by decide)]
  clear h1 hc0
  go_enter Tryz.func151,Tryz.ntmps151
  go_wp2_with fail
  refine (KC.out _ _ _).mono ?_
  rintro _ w1 ⟨_,rfl,hq1,rfl⟩
  go_wp2
  go_ret
  exact .mk (za ex hq1.ext) rfl
theorem zaD (w:World) (a b:List Int):Calls Tryz.prog 145 #[rL a,rL b] w (Post w fun _ r=>r=.int .i64 (lexN a b 7)):=by
 have KG:Hid (∀W,Calls Tryz.prog 154 #[.agg #[.int .i64 (nth a 0),.int .i64 (nth a 1),.int .i64 (nth a 2),.int .i64 (nth a 3),.int .i64 (nth a 4),.int .i64 (nth a 5)],.agg #[.int .i64 (nth b 0),.int .i64 (nth b 1),.int .i64 (nth b 2),.int .i64 (nth b 3),.int .i64 (nth b 4),.int .i64 (nth b 5)]] W (Post W fun _ r=>r=.int .i64 (lexN a b 6))):=zhd fun W=>XN W a b
 have HS:Hid (lexN a b 7=if lexN a b 6=0 then cmpI (nth a 6) (nth b 6) else lexN a b 6):=zhd QQ
 obtain ⟨g,hg⟩:∃g,g=lexN a b 6:=⟨_,rfl⟩
 rw[←hg]at KG HS
 clear hg
 unfold rL
 have ex:=zg (zb w (.cells #[.int .i64 (nth a 0),.int .i64 (nth a 1),.int .i64 (nth a 2),.int .i64 (nth a 3),.int .i64 (nth a 4),.int .i64 (nth a 5),.int .i64 (nth a 6)] 67)) (.cells #[.int .i64 (nth b 0),.int .i64 (nth b 1),.int .i64 (nth b 2),.int .i64 (nth b 3),.int .i64 (nth b 4),.int .i64 (nth b 5),.int .i64 (nth b 6)] 67)
 have R1:Row ((w.alloc (.cells #[.int .i64 (nth a 0),.int .i64 (nth a 1),.int .i64 (nth a 2),.int .i64 (nth a 3),.int .i64 (nth a 4),.int .i64 (nth a 5),.int .i64 (nth a 6)] 67)).alloc (.cells #[.int .i64 (nth b 0),.int .i64 (nth b 1),.int .i64 (nth b 2),.int .i64 (nth b 3),.int .i64 (nth b 4),.int .i64 (nth b 5),.int .i64 (nth b 6)] 67)) w.heap.size 67 [.int .i64 (nth a 0),.int .i64 (nth a 1),.int .i64 (nth a 2),.int .i64 (nth a 3),.int .i64 (nth a 4),.int .i64 (nth a 5),.int .i64 (nth a 6)]:=(ze w [.int .i64 (nth a 0),.int .i64 (nth a 1),.int .i64 (nth a 2),.int .i64 (nth a 3),.int .i64 (nth a 4),.int .i64 (nth a 5),.int .i64 (nth a 6)] _).alloc _
 have R2:Row ((w.alloc (.cells #[.int .i64 (nth a 0),.int .i64 (nth a 1),.int .i64 (nth a 2),.int .i64 (nth a 3),.int .i64 (nth a 4),.int .i64 (nth a 5),.int .i64 (nth a 6)] 67)).alloc (.cells #[.int .i64 (nth b 0),.int .i64 (nth b 1),.int .i64 (nth b 2),.int .i64 (nth b 3),.int .i64 (nth b 4),.int .i64 (nth b 5),.int .i64 (nth b 6)] 67)) (w.heap.size+1) 67 [.int .i64 (nth b 0),.int .i64 (nth b 1),.int .i64 (nth b 2),.int .i64 (nth b 3),.int .i64 (nth b 4),.int .i64 (nth b 5),.int .i64 (nth b 6)]:=by
  have:=ze (w.alloc (.cells #[.int .i64 (nth a 0),.int .i64 (nth a 1),.int .i64 (nth a 2),.int .i64 (nth a 3),.int .i64 (nth a 4),.int .i64 (nth a 5),.int .i64 (nth a 6)] 67)) [.int .i64 (nth b 0),.int .i64 (nth b 1),.int .i64 (nth b 2),.int .i64 (nth b 3),.int .i64 (nth b 4),.int .i64 (nth b 5),.int .i64 (nth b 6)] 67
  rwa [World.size_alloc]at this
 by_cases h0:g=0
 ·subst h0
  rw[show lexN a b 7=cmpI (nth a 6) (nth b 6) by rw[HS.out,if_pos rfl]]
  have go:∀z:Int,cmpI (nth a 6) (nth b 6)=z→(nth a 6<nth b 6↔z= -1)∧(nth b 6<nth a 6↔z=1)∧(z= -1∨z=0∨z=1):=fun z hz=>by
   subst hz;unfold cmpI;split
   ·constructor<;>simp_all;omega
   ·split<;>simp_all
  by_cases h1:nth a 6<nth b 6
  ·rw[xK h1]
   clear go
   go_enter Tryz.func145,Tryz.ntmps145
   go_wp2_with fail
   refine (KG.out _).mono ?_
   rintro _ w1 ⟨_,rfl,hb1,rfl⟩
   have c6:=(R1.ext hb1).zc 6 rfl
   have d6:=(R2.ext hb1).zc 6 rfl
   go_wp2
   go_ret
   exact .mk (za ex hb1) rfl
  by_cases h2:nth b 6<nth a 6
  ·rw[xO h2]
   clear go
   go_enter Tryz.func145,Tryz.ntmps145
   go_wp2_with fail
   refine (KG.out _).mono ?_
   rintro _ w1 ⟨_,rfl,hb1,rfl⟩
   have c6:=(R1.ext hb1).zc 6 rfl
   have d6:=(R2.ext hb1).zc 6 rfl
   go_wp2
   go_ret
   exact .mk (za ex hb1) rfl
  ·rw[Zk h1 h2]
   clear go
   go_enter Tryz.func145,Tryz.ntmps145
   go_wp2_with fail
   refine (KG.out _).mono ?_
   rintro _ w1 ⟨_,rfl,hb1,rfl⟩
   have c6:=(R1.ext hb1).zc 6 rfl
   have d6:=(R2.ext hb1).zc 6 rfl
   go_wp2
   go_ret
   exact .mk (za ex hb1) rfl
 ·rw[show lexN a b 7=g by rw[HS.out,if_neg h0]]
  have e0:(g !=0)=true:=by simp[h0]
  clear h0
  go_enter Tryz.func145,Tryz.ntmps145
  go_wp2_with fail
  refine (KG.out _).mono ?_
  rintro _ w1 ⟨_,rfl,hb1,rfl⟩
  go_wp2
  go_ret
  exact .mk (za ex hb1) rfl
theorem zaF (w:World) (a b:List Int):Calls Tryz.prog 139 #[rL a,rL b] w (Post w fun _ r=>r=.int .i64 (lexN a b 7)):=by
 have KG:Hid (∀W,Calls Tryz.prog 151 #[.agg #[.int .i64 (nth a 0),.int .i64 (nth a 1),.int .i64 (nth a 2),.int .i64 (nth a 3),.int .i64 (nth a 4),.int .i64 (nth a 5)],.agg #[.int .i64 (nth b 0),.int .i64 (nth b 1),.int .i64 (nth b 2),.int .i64 (nth b 3),.int .i64 (nth b 4),.int .i64 (nth b 5)]] W (Post W fun _ r=>r=.int .i64 (lexN a b 6))):=zhd fun W=>X7 W a b
 have KC:=zhd fun W=>((zdd W (nth a 6) (nth b 6)).mono fun _ _ h=>h.take)
 have HS:Hid (lexN a b 7=if lexN a b 6=0 then cmpI (nth a 6) (nth b 6) else lexN a b 6):=zhd QQ
 have EQ:∀W:World,(Op.equalIn 10000 67 (.agg #[.int .i64 (nth a 0),.int .i64 (nth a 1),.int .i64 (nth a 2),.int .i64 (nth a 3),.int .i64 (nth a 4),.int .i64 (nth a 5),.int .i64 (nth a 6)]) (.agg #[.int .i64 (nth b 0),.int .i64 (nth b 1),.int .i64 (nth b 2),.int .i64 (nth b 3),.int .i64 (nth b 4),.int .i64 (nth b 5),.int .i64 (nth b 6)])).run Tryz.prog W=.ok (decide (lexN a b 7=0)) W:=fun W=>by rw[←YS];exact yW 9996 a b W
 have EQ2:∀W:World,(Op.equalIn 10000 65 (.agg #[.int .i64 (nth a 0),.int .i64 (nth a 1),.int .i64 (nth a 2),.int .i64 (nth a 3),.int .i64 (nth a 4),.int .i64 (nth a 5)]) (.agg #[.int .i64 (nth b 0),.int .i64 (nth b 1),.int .i64 (nth b 2),.int .i64 (nth b 3),.int .i64 (nth b 4),.int .i64 (nth b 5)])).run Tryz.prog W=.ok (decide (lexN a b 6=0)) W:=fun W=>by rw[←YS];exact qW 9997 a b W
 have EG:Tryz.prog.eqGuardType Tryz.prog.depth 67=false:=by kernel_rfl
 have EG2:Tryz.prog.eqGuardType Tryz.prog.depth 65=false:=by kernel_rfl
 obtain ⟨g,hg⟩:∃g,g=lexN a b 6:=⟨_,rfl⟩
 obtain ⟨z,hz⟩:∃g,g=lexN a b 7:=⟨_,rfl⟩
 obtain ⟨c,hc⟩:∃g,g=cmpI (nth a 6) (nth b 6):=⟨_,rfl⟩
 rw[←hg]at KG HS EQ2
 rw[←hz]at HS EQ ⊢
 rw[←hc]at KC HS
 clear hg hz hc
 unfold rL
 have ex:=zg (zb w (.cells #[.int .i64 (nth a 0),.int .i64 (nth a 1),.int .i64 (nth a 2),.int .i64 (nth a 3),.int .i64 (nth a 4),.int .i64 (nth a 5),.int .i64 (nth a 6)] 67)) (.cells #[.int .i64 (nth b 0),.int .i64 (nth b 1),.int .i64 (nth b 2),.int .i64 (nth b 3),.int .i64 (nth b 4),.int .i64 (nth b 5),.int .i64 (nth b 6)] 67)
 have R1:Row ((w.alloc (.cells #[.int .i64 (nth a 0),.int .i64 (nth a 1),.int .i64 (nth a 2),.int .i64 (nth a 3),.int .i64 (nth a 4),.int .i64 (nth a 5),.int .i64 (nth a 6)] 67)).alloc (.cells #[.int .i64 (nth b 0),.int .i64 (nth b 1),.int .i64 (nth b 2),.int .i64 (nth b 3),.int .i64 (nth b 4),.int .i64 (nth b 5),.int .i64 (nth b 6)] 67)) w.heap.size 67 [.int .i64 (nth a 0),.int .i64 (nth a 1),.int .i64 (nth a 2),.int .i64 (nth a 3),.int .i64 (nth a 4),.int .i64 (nth a 5),.int .i64 (nth a 6)]:=(ze w [.int .i64 (nth a 0),.int .i64 (nth a 1),.int .i64 (nth a 2),.int .i64 (nth a 3),.int .i64 (nth a 4),.int .i64 (nth a 5),.int .i64 (nth a 6)] _).alloc _
 have R2:Row ((w.alloc (.cells #[.int .i64 (nth a 0),.int .i64 (nth a 1),.int .i64 (nth a 2),.int .i64 (nth a 3),.int .i64 (nth a 4),.int .i64 (nth a 5),.int .i64 (nth a 6)] 67)).alloc (.cells #[.int .i64 (nth b 0),.int .i64 (nth b 1),.int .i64 (nth b 2),.int .i64 (nth b 3),.int .i64 (nth b 4),.int .i64 (nth b 5),.int .i64 (nth b 6)] 67)) (w.heap.size+1) 67 [.int .i64 (nth b 0),.int .i64 (nth b 1),.int .i64 (nth b 2),.int .i64 (nth b 3),.int .i64 (nth b 4),.int .i64 (nth b 5),.int .i64 (nth b 6)]:=by
  have:=ze (w.alloc (.cells #[.int .i64 (nth a 0),.int .i64 (nth a 1),.int .i64 (nth a 2),.int .i64 (nth a 3),.int .i64 (nth a 4),.int .i64 (nth a 5),.int .i64 (nth a 6)] 67)) [.int .i64 (nth b 0),.int .i64 (nth b 1),.int .i64 (nth b 2),.int .i64 (nth b 3),.int .i64 (nth b 4),.int .i64 (nth b 5),.int .i64 (nth b 6)] 67
  rwa [World.size_alloc]at this
 by_cases hz:z=0
 ·rw[decide_eq_true hz]at EQ
  subst hz
  clear EQ2 EG2
  go_enter Tryz.func139,Tryz.ntmps139
  go_wp2
  go_ret
  exact .mk ex rfl
 rw[decide_eq_false hz]at EQ
 by_cases h0:g=0
 ·rw[decide_eq_true h0]at EQ2
  have HZC:Hid (z=c):=zhd (by rw[HS.out,if_pos h0])
  clear hz h0
  go_enter Tryz.func139,Tryz.ntmps139
  go_wp2_with fail
  refine (KC.out _).mono ?_
  rintro _ w1 ⟨_,rfl,hq1,rfl⟩
  go_wp2
  go_ret
  exact .mk (za ex hq1.ext) (zi HZC.out.symm)
 ·rw[decide_eq_false h0]at EQ2
  have HZC:Hid (z=g):=zhd (by rw[HS.out,if_neg h0])
  clear hz h0
  go_enter Tryz.func139,Tryz.ntmps139
  go_wp2_with fail
  refine (KG.out _).mono ?_
  rintro _ w1 ⟨_,rfl,hb1,rfl⟩
  go_wp2
  go_ret
  exact .mk (za ex hb1) (zi HZC.out.symm)
end Go.Proofs.YtjpakklplhabdaaGreat
