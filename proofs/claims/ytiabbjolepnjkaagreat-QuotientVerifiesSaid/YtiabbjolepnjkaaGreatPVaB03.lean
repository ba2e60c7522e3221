/- Part of the proof that the laws answer true for every input. -/
import Derived.Test.YtiabbjolepnjkaaGreatPVaB02
set_option linter.unusedSimpArgs false
set_option linter.unnecessarySimpa false
set_option linter.unusedVariables false
set_option maxRecDepth 100000
set_option maxHeartbeats 40000000
namespace Go.Proofs.YtiabbjolepnjkaaGreat
open Go.RowKit
attribute [local go_sem ↓] Go.wp_at_zero Go.wp_at_succ
def FolTo (T:List (List Int)) (lab:Nat→Int) (v w k:Nat):Prop:=∀u,u<k→hrsB T u v=true→0≤repT T u v w∧lab (repT T u v w).toNat=lab u
theorem FolTo.next {T:List (List Int)} {lab:Nat→Int} {v w k:Nat} (h:FolTo T lab v w k) (hk:hrsB T k v=true→0≤repT T k v w∧lab (repT T k v w).toNat=lab k):FolTo T lab v w (k+1):=fun u hu hh=>by
 by_cases e:u=k
 ·subst e;exact hk hh
 ·exact h u (by omega) hh
theorem FolTo.done {T:List (List Int)} {lab:Nat→Int} {v w:Nat} (h:FolTo T lab v w T.length):folB T lab v w=true:=yp.2 h
theorem zcN {S S2:Nat→Prop} {w:World} {v vl:Value} {s:SysF} {L:List Int} {u x:Nat} (h:SysV S w v s) (hg:GoodS s s.N s.K) (h2:Ints S2 w vl L) (hl:L.length=s.tab.length) (hu:u<s.tab.length) (hx':x<s.tab.length) (hm:s.tab.length≤100000):
  Calls Tryz.prog 122 #[v,vl,u,x] w (Post w fun _ r=>r=.bool (folB s.tab (nth L) u x)):=by
 have KH:Hid (∀k,k<s.tab.length→∀W,Below w.heap.size w W→Calls Tryz.prog 91 #[v,k,u] W (Post W fun _ r=>r=.bool (hrsB s.tab k u))):=zhd fun k hk W hW=>xj (h.ext hW) hg hk hu;have KR:Hid (∀k,k<s.tab.length→∀W,Below w.heap.size w W→Calls Tryz.prog 92 #[v,k,u,x] W (Post W fun _ r=>r=.int .i64 (repT s.tab k u x))):=zhd fun k hk W hW=>Qx (h.ext hW) hg hk hu (WF.small (by omega));obtain ⟨ca,cc,sa,sc,ta,tc,xa,xc,rfl,hc,hs,ht,hx⟩:=h.zf;obtain ⟨a2,c2,rfl,_⟩:=h2.form;have HI:=zhd h2;have HLL:=zhd hl;obtain ⟨ex,R0⟩:=zb1 w [s.p.n,s.p.ins,s.p.outs,.slice ca s.p.cs.length cc,s.p.an,.slice sa s.p.st.length sc,s.p.rounds,s.tn,.slice ta s.tab.length tc,.slice xa s.ex.length xc] 35;have HT:Hid (FolTo s.tab (nth L) u x s.tab.length→folB s.tab (nth L) u x=true):=zhd FolTo.done;have HN:Hid (∀k,k<s.tab.length→hrsB s.tab k u=true→¬(0≤repT s.tab k u x∧nth L (repT s.tab k u x).toNat=nth L k)→folB s.tab (nth L) u x=false):=zhd fun k=>zeO;obtain ⟨r,hr⟩:=zn (folB s.tab (nth L) u x);rw[←hr]at HT HN ⊢;have H0:Hid (FolTo s.tab (nth L) u x 0):=zhd fun u hu=>by omega
 have HB:Hid (∀k, -1≤repT s.tab k u x∧repT s.tab k u x<s.tab.length):=zhd fun k=>qU;obtain ⟨n,hn⟩:=zn L.length;rw[←hn]at HI ⊢;have HNN:Hid (n=s.tab.length):=zhd (hn.trans hl);have HNL:Hid (n=L.length):=zhd hn;have hn100:n≤100000:=by omega
 clear hc hs ht hx hg hr h2 hl hn hu hx' hm;go_enter Tryz.func122,Tryz.ntmps122;go_wp2;go_loopw [9,10] (fun i _ wr=>∃k:Nat,k≤n∧i=.int .i64 k∧Hid (FolTo s.tab (nth L) u x k)∧Below w.heap.size w wr∧Row wr w.heap.size 35 [s.p.n,s.p.ins,s.p.outs,.slice ca s.p.cs.length cc,s.p.an,.slice sa s.p.st.length sc,s.p.rounds,s.tn,.slice ta s.tab.length tc,.slice xa s.ex.length xc]) (fun i _ _=>n - (intOf i).toNat)
 case atStart=>exact ⟨0,Nat.zero_le _,rfl,H0,ex,R0⟩
 case round=>
  clear ex R0;obtain ⟨k,hk,rfl,HF,ex,R0⟩:=hrel;obtain ⟨t0,t1,t2,t3,t4,t5,t6,t7,t8,t9⟩:=R0.ten;have l0:=R0.lt;by_cases hlt:k<n
  case neg=>
   have HR:Hid (r=true):=zhd (HT.out (by have:=HNN.out;rw[←this,show n=k by omega];exact HF.out));go_wp2;go_ret;exact .mk ex (zy HR.out.symm)
  have hkt:k<s.tab.length:=by have:=HNN.out;omega
  have KH2:=zhd (KH.out k hkt wr ex);have KR2:=zhd (KR.out k hkt);have HNX:Hid ((hrsB s.tab k u=true→0≤repT s.tab k u x∧nth L (repT s.tab k u x).toNat=nth L k)→FolTo s.tab (nth L) u x (k+1)):=zhd fun hh=>HF.out.next hh;have HST:=zhd (HN.out k hkt);have HBK:=zhd (HB.out k);obtain ⟨b,hb⟩:=zn (hrsB s.tab k u);obtain ⟨y,hy⟩:=zn (repT s.tab k u x);rw[←hb]at KH2 HNX HST;rw[←hy]at KR2 HNX HST HBK;clear hb hy hkt;go_wp2_with fail;refine (KH2.out).mono ?_;rintro _ w1 ⟨_,rfl,hb,rfl⟩;replace R0:=R0.ext hb;replace ex:=za ex hb;clear hb KH2 t0 t1 t2 t3 t4 t5 t6 t7 t8 t9 l0;cases b with
  | false=>
   have HF2:=zhd (HNX.out fun h=>by cases h);go_wp2;go_roundw
   case rel=>exact ⟨k+1,by omega,by go_num,HF2,ex,R0⟩
   case measure=>simp[intOf];omega
  | true=>
   obtain ⟨t0,t1,t2,t3,t4,t5,t6,t7,t8,t9⟩:=R0.ten;have l0:=R0.lt;go_wp2_with fail;refine (KR2.out _ ex).mono ?_;rintro _ w2 ⟨_,rfl,hb,rfl⟩;replace R0:=R0.ext hb;replace ex:=za ex hb;clear hb KR2 t0 t1 t2 t3 t4 t5 t6 t7 t8 t9 l0;by_cases hy0:y<0
   ·have d1:decide (y<0)=true:=decide_eq_true hy0;have HR:Hid (r=false):=zhd (HST.out trivial (fun h=>by omega));have HY:=zhd hy0;clear hy0;go_wp2;go_quiet (fail);go_wp2;go_ret;exact .mk (za ex (zb _ _ _)) (zy HR.out.symm)
   ·obtain ⟨z,rfl⟩:∃z:Nat,y=z:=⟨y.toNat,by omega⟩;have hzn:z<n:=by have:=HBK.out.2;have:=HNN.out;omega
    have hi:=HI.out.ext ex;have qz:∀W:World,(Instr.indexAt 36 (.slice a2 n c2) (.int .i64 z)).run Tryz.prog W=.ok (.pointer (some (adr a2 z))) W:=fun W=>by rw[HNL.out];exact (show Ints S2 _ (.slice a2 L.length c2) L by rw[←HNL.out];exact hi).idx (by rw[←HNL.out];exact hzn) W
    have qk:∀W:World,(Instr.indexAt 36 (.slice a2 n c2) (.int .i64 k)).run Tryz.prog W=.ok (.pointer (some (adr a2 k))) W:=fun W=>by rw[HNL.out];exact (show Ints S2 _ (.slice a2 L.length c2) L by rw[←HNL.out];exact hi).idx (by rw[←HNL.out];exact hlt) W
    have cz:=hi.cellN (k:=z) (by rw[←HNL.out];exact hzn);have ck:=hi.cellN (k:=k) (by rw[←HNL.out];exact hlt);have bz:=World.block_lt_of_cell? _ _ cz;have bk:=World.block_lt_of_cell? _ _ ck;obtain ⟨lz,hlz⟩:∃l,l=nth L z:=⟨_,rfl⟩;obtain ⟨lk,hlk⟩:∃l,l=nth L k:=⟨_,rfl⟩;rw[←hlz]at cz;rw[←hlk]at ck;have HZ:=zhd hlz;have HK:=zhd hlk;have d1:decide ((z:Int)<0)=false:=decide_eq_false (by omega);have yb:=fun n=>za ex (zb w2.heap.size w2 n);have yR:=fun n=>R0.ext (zb w2.heap.size w2 n);clear hy0 hi hlz hlk;by_cases he:lz=lk
    ·have HF2:=zhd (HNX.out fun _=>⟨by omega,by rw[Int.toNat_natCast,←HZ.out,←HK.out,he]⟩);have d2:(lz !=lk)=false:=by simp[he]
     clear ex R0 he;go_wp2;go_quiet (fail);go_wp2;go_roundw
     case rel=>exact ⟨k+1,by omega,by go_num,HF2,yb _,yR _⟩
     case measure=>simp[intOf];omega
    ·have HR:Hid (r=false):=zhd (HST.out trivial (fun h=>he (by rw[HZ.out,HK.out];have:=h.2;rwa [Int.toNat_natCast]at this)));have d2:(lz !=lk)=true:=by simp[he]
     clear ex R0 he;go_wp2;go_quiet (fail);go_wp2;go_ret;exact .mk (yb _) (zy HR.out.symm)
end Go.Proofs.YtiabbjolepnjkaaGreat
