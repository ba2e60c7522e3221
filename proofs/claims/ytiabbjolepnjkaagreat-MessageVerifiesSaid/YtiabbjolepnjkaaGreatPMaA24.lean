/- Part of the proof that the laws answer true for every input. -/
import Derived.Test.YtiabbjolepnjkaaGreatPMaA22
set_option linter.unusedSimpArgs false
set_option linter.unnecessarySimpa false
set_option linter.unusedVariables false
set_option maxRecDepth 100000
set_option maxHeartbeats 40000000
namespace Go.Proofs.YtiabbjolepnjkaaGreat
open Go.RowKit
attribute [local go_sem ↓] Go.wp_at_zero Go.wp_at_succ
def FolTo (T:List (List Int)) (lab:Nat→Int) (v w k:Nat):Prop:=∀u,u<k→hrsB T u v=true→0≤repT T u v w∧lab (repT T u v w).toNat=lab u
theorem FolTo.next {T:List (List Int)} {lab:Nat→Int} {v w k:Nat} (h:FolTo T lab v w k) (hk:hrsB T k v=true→0≤repT T k v w∧lab (repT T k v w).toNat=lab k):FolTo T lab v w (k+1):=fun u hu hh=>by
 by_cases e:u=k
 ·subst e;exact hk hh
 ·exact h u (by omega) hh
theorem FolTo.done {T:List (List Int)} {lab:Nat→Int} {v w:Nat} (h:FolTo T lab v w T.length):folB T lab v w=true:=Zd.2 h
theorem zdH {T:List (List Int)} {lab:Nat→Int} {v w k:Nat} (hk:k<T.length) (hh:hrsB T k v=true) (h:¬(0≤repT T k v w∧lab (repT T k v w).toNat=lab k)):folB T lab v w=false:=by
 cases e:folB T lab v w with
 | false=>rfl
 | true=>exact absurd (Zd.1 e k hk hh) h
theorem zc0 {S S2:Nat→Prop} {w:World} {v vl:Value} {s:SysF} {L:List Int} {u x:Nat} (h:SysV S w v s) (hg:GoodS s s.N s.K) (h2:Ints S2 w vl L) (hl:L.length=s.tab.length) (hu:u<s.tab.length) (hx':x<s.tab.length) (hm:s.tab.length≤100000):
  Calls Tryz.prog 122 #[v,vl,u,x] w (Post w fun _ r=>r=.bool (folB s.tab (nth L) u x)):=by
 have KH:Hid (∀k,k<s.tab.length→∀W,Below w.heap.size w W→Calls Tryz.prog 91 #[v,k,u] W (Post W fun _ r=>r=.bool (hrsB s.tab k u))):=zhd fun k hk W hW=>ZW (h.ext hW) hg hk hu;have KR:Hid (∀k,k<s.tab.length→∀W,Below w.heap.size w W→Calls Tryz.prog 92 #[v,k,u,x] W (Post W fun _ r=>r=.int .i64 (repT s.tab k u x))):=zhd fun k hk W hW=>Qj (h.ext hW) hg hk hu (WF.small (by omega));obtain ⟨ca,cc,sa,sc,ta,tc,xa,xc,rfl,hc,hs,ht,hx⟩:=h.zf;obtain ⟨a2,c2,rfl,_⟩:=h2.form;have HI:=zhd h2;have HLL:=zhd hl;obtain ⟨ex,R0⟩:=zb1 w [s.p.n,s.p.ins,s.p.outs,.slice ca s.p.cs.length cc,s.p.an,.slice sa s.p.st.length sc,s.p.rounds,s.tn,.slice ta s.tab.length tc,.slice xa s.ex.length xc] 35;have HT:Hid (FolTo s.tab (nth L) u x s.tab.length→folB s.tab (nth L) u x=true):=zhd FolTo.done;have HN:Hid (∀k,k<s.tab.length→hrsB s.tab k u=true→¬(0≤repT s.tab k u x∧nth L (repT s.tab k u x).toNat=nth L k)→folB s.tab (nth L) u x=false):=zhd fun k=>zdH;obtain ⟨r,hr⟩:=zn (folB s.tab (nth L) u x);rw[←hr]at HT HN ⊢;have H0:Hid (FolTo s.tab (nth L) u x 0):=zhd fun u hu=>by omega
 have HB:Hid (∀k, -1≤repT s.tab k u x∧repT s.tab k u x<s.tab.length):=zhd fun k=>QR;obtain ⟨n,hn⟩:=zn L.length;rw[←hn]at HI ⊢;have HNN:Hid (n=s.tab.length):=zhd (hn.trans hl);have HNL:Hid (n=L.length):=zhd hn;have hn100:n≤100000:=by omega
 clear hc hs ht hx hg hr h2 hl hn hu hx' hm;go_enter Tryz.func122,Tryz.ntmps122;go_wp2;go_loopw [9,10] (fun i _ wr=>∃k:Nat,k≤n∧i=.int .i64 k∧Hid (FolTo s.tab (nth L) u x k)∧Below w.heap.size w wr∧Row wr w.heap.size 35 [s.p.n,s.p.ins,s.p.outs,.slice ca s.p.cs.length cc,s.p.an,.slice sa s.p.st.length sc,s.p.rounds,s.tn,.slice ta s.tab.length tc,.slice xa s.ex.length xc]) (fun i _ _=>n - (intOf i).toNat)
 case atStart=>exact ⟨0,Nat.zero_le _,rfl,H0,ex,R0⟩
 case round=>
  clear ex R0;obtain ⟨k,hk,rfl,HF,ex,R0⟩:=hrel;obtain ⟨t0,t1,t2,t3,t4,t5,t6,t7,t8,t9⟩:=R0.ten;have l0:=R0.lt;by_cases hlt:k<n
  case neg=>
   have HR:Hid (r=true):=zhd (HT.out (by have:=HNN.out;rw[←this,show n=k by omega];exact HF.out));go_wp2;go_ret;exact .mk ex (zv HR.out.symm)
  have hkt:k<s.tab.length:=by have:=HNN.out;omega
  have KH2:=zhd (KH.out k hkt wr ex);have KR2:=zhd (KR.out k hkt);have HNX:Hid ((hrsB s.tab k u=true→0≤repT s.tab k u x∧nth L (repT s.tab k u x).toNat=nth L k)→FolTo s.tab (nth L) u x (k+1)):=zhd fun hh=>HF.out.next hh;have HST:=zhd (HN.out k hkt);have HBK:=zhd (HB.out k);obtain ⟨b,hb⟩:=zn (hrsB s.tab k u);obtain ⟨y,hy⟩:=zn (repT s.tab k u x);rw[←hb]at KH2 HNX HST;rw[←hy]at KR2 HNX HST HBK;clear hb hy hkt;go_wp2_with fail;refine (KH2.out).mono ?_;rintro _ w1 ⟨_,rfl,hb,rfl⟩;replace R0:=R0.ext hb;replace ex:=za ex hb;clear hb KH2 t0 t1 t2 t3 t4 t5 t6 t7 t8 t9 l0;cases b with
  | false=>
   have HF2:=zhd (HNX.out fun h=>by cases h);go_wp2;go_roundw
   case rel=>exact ⟨k+1,by omega,by go_num,HF2,ex,R0⟩
   case measure=>simp[intOf];omega
  | true=>
   obtain ⟨t0,t1,t2,t3,t4,t5,t6,t7,t8,t9⟩:=R0.ten;have l0:=R0.lt;go_wp2_with fail;refine (KR2.out _ ex).mono ?_;rintro _ w2 ⟨_,rfl,hb,rfl⟩;replace R0:=R0.ext hb;replace ex:=za ex hb;clear hb KR2 t0 t1 t2 t3 t4 t5 t6 t7 t8 t9 l0;by_cases hy0:y<0
   ·have d1:decide (y<0)=true:=decide_eq_true hy0;have HR:Hid (r=false):=zhd (HST.out trivial (fun h=>by omega));have HY:=zhd hy0;clear hy0;go_wp2;go_quiet (fail);go_wp2;go_ret;exact .mk (za ex (zb _ _ _)) (zv HR.out.symm)
   ·obtain ⟨z,rfl⟩:∃z:Nat,y=z:=⟨y.toNat,by omega⟩;have hzn:z<n:=by have:=HBK.out.2;have:=HNN.out;omega
    have hi:=HI.out.ext ex;have qz:∀W:World,(Instr.indexAt 36 (.slice a2 n c2) (.int .i64 z)).run Tryz.prog W=.ok (.pointer (some (adr a2 z))) W:=fun W=>by rw[HNL.out];exact (show Ints S2 _ (.slice a2 L.length c2) L by rw[←HNL.out];exact hi).idx (by rw[←HNL.out];exact hzn) W
    have qk:∀W:World,(Instr.indexAt 36 (.slice a2 n c2) (.int .i64 k)).run Tryz.prog W=.ok (.pointer (some (adr a2 k))) W:=fun W=>by rw[HNL.out];exact (show Ints S2 _ (.slice a2 L.length c2) L by rw[←HNL.out];exact hi).idx (by rw[←HNL.out];exact hlt) W
    have cz:=hi.cellN (k:=z) (by rw[←HNL.out];exact hzn);have ck:=hi.cellN (k:=k) (by rw[←HNL.out];exact hlt);have bz:=World.block_lt_of_cell? _ _ cz;have bk:=World.block_lt_of_cell? _ _ ck;obtain ⟨lz,hlz⟩:∃l,l=nth L z:=⟨_,rfl⟩;obtain ⟨lk,hlk⟩:∃l,l=nth L k:=⟨_,rfl⟩;rw[←hlz]at cz;rw[←hlk]at ck;have HZ:=zhd hlz;have HK:=zhd hlk;have d1:decide ((z:Int)<0)=false:=decide_eq_false (by omega);have yb:=fun n=>za ex (zb w2.heap.size w2 n);have yR:=fun n=>R0.ext (zb w2.heap.size w2 n);clear hy0 hi hlz hlk;by_cases he:lz=lk
    ·have HF2:=zhd (HNX.out fun _=>⟨by omega,by rw[Int.toNat_natCast,←HZ.out,←HK.out,he]⟩);have d2:(lz !=lk)=false:=by simp[he]
     clear ex R0 he;go_wp2;go_quiet (fail);go_wp2;go_roundw
     case rel=>exact ⟨k+1,by omega,by go_num,HF2,yb _,yR _⟩
     case measure=>simp[intOf];omega
    ·have HR:Hid (r=false):=zhd (HST.out trivial (fun h=>he (by rw[HZ.out,HK.out];have:=h.2;rwa [Int.toNat_natCast]at this)));have d2:(lz !=lk)=true:=by simp[he]
     clear ex R0 he;go_wp2;go_quiet (fail);go_wp2;go_ret;exact .mk (yb _) (zv HR.out.symm)
theorem rowInt {w:World} {g:Nat} {t:TypeId} {l:List Int} (R:Row w g t (l.map (Value.int .i64))) {k:Nat} (h:k<l.length):w.cell? ⟨g,k,none⟩=some (.int .i64 (nth l k)):=R.cell (j:=k) (by rw[List.getElem?_map,get?_nth h];rfl)
theorem rowSet {w:World} {g:Nat} {t:TypeId} {l:List Int} (R:Row w g t (l.map (Value.int .i64))) (k:Nat) (x:Int):Row (w.setCell ⟨g,k,none⟩ (.int .i64 x)) g t ((l.set k x).map (Value.int .i64)):=by
 rw[List.map_set];exact R.set k _
theorem tup2 {a a' b b':Int} (h:a=a') (h':b=b'):Value.tuple #[a,b]=Value.tuple #[a',b']:=by rw[h,h']
theorem qy {S:Nat→Prop} {w:World} {v:Value} {s:SysF} {ch:List Int} (h:SysV S w v s) (h0:ruleE s ch=0):GoodS s s.N s.K∧ch.length=s.tab.length:=⟨yF (zb3 h0).1 h.moves8,(zb3 h0).2.1⟩
theorem zq {P:Program} {Q:Exit→Act→World→Prop} {md:Region.Mode} {S:World→Prop} {X:Nat→Bool} {l:List Oper} (i:Nat) {oi:Oper} {fuel:Nat} {listed:Array Bool} {a:Act} {w:World} (hi:l[i]? =some oi)
  (hf:(Region.noSelect l.toArray&&(Region.free md l.toArray listed i&&((Region.ready md l.toArray listed).contains i&&waitFor md l.toArray X i)))=true)
  (hQ:∀c a w,Q (.panic c) (a.put oi.dst undef) w→Q (.panic c) a w) (hw:Region.wanted oi (yielded l.toArray a.tmps)=false) (hS:S w)
  (h:AnyE P md l.toArray Q S X fuel (listed.setIfInBounds i true) (a.put oi.dst undef) w):AnyE P md l.toArray Q S X (fuel+1) listed a w:=by
 simp only[Bool.and_eq_true]at hf;exact Qc (by simpa using hi) hf.1 (by simp only[Bool.and_eq_true];exact hf.2) hQ (.inr ⟨hw,rfl⟩) hS h
def fitP (T:List (List Int)) (ch cl:List Int) (v w:Nat):Prop:=v≠w→nth cl v=nth cl w→alkB T ch v w=true∧folB T (nth cl) v w=true
def fitB (T:List (List Int)) (ch cl:List Int):Bool:=(List.range T.length).all fun v=>(List.range T.length).all fun w=>decide (v=w)||(!decide (nth cl v=nth cl w)||(alkB T ch v w&&folB T (nth cl) v w))
theorem zbl {T:List (List Int)} {ch cl:List Int}:fitB T ch cl=true↔∀v w,v<T.length→w<T.length→fitP T ch cl v w:=by
 unfold fitB fitP;simp only[List.all_eq_true,List.mem_range,Bool.or_eq_true,Bool.and_eq_true,Bool.not_eq_true',decide_eq_true_iff,decide_eq_false_iff_not];constructor
 ·intro h v w hv hw hne hc;rcases h v hv w hw with h1 | h1 | h1
  ·exact absurd h1 hne
  ·exact absurd hc h1
  ·exact h1
 ·intro h v hv w hw;by_cases e:v=w
  ·exact .inl e
  ·by_cases hc:nth cl v=nth cl w
   ·exact .inr (.inr (h v w hv hw e hc))
   ·exact .inr (.inl hc)
theorem zbX {T:List (List Int)} {ch cl:List Int}:fitB T ch cl=true↔FitP T ch cl:=by
 rw[zbl];constructor
 ·intro h v w hv hw hne hc;obtain ⟨h1,h2⟩:=h v w hv hw hne hc;obtain ⟨⟨a,b⟩,c⟩:=zex.1 h1;exact ⟨⟨a,b,c⟩,h2⟩
 ·intro h v w hv hw hne hc;obtain ⟨⟨a,b,c⟩,d⟩:=h v w hv hw hne hc;exact ⟨zex.2 ⟨⟨a,b⟩,c⟩,d⟩
def FitTo (T:List (List Int)) (ch cl:List Int) (v w:Nat):Prop:=(∀i j,i<v→j<T.length→fitP T ch cl i j)∧∀j,j<w→fitP T ch cl v j
theorem FitTo.next {T:List (List Int)} {ch cl:List Int} {v w:Nat} (h:FitTo T ch cl v w) (hp:fitP T ch cl v w):FitTo T ch cl v (w+1):=⟨h.1,fun j hj=>by
 by_cases e:j=w
 ·subst e;exact hp
 ·exact h.2 j (by omega)⟩
theorem FitTo.row {T:List (List Int)} {ch cl:List Int} {v:Nat} (h:FitTo T ch cl v T.length):FitTo T ch cl (v+1) 0:=⟨fun i j hi hj=>by
 by_cases e:i=v
 ·subst e;exact h.2 j hj
 ·exact h.1 i j (by omega) hj,fun j hj=>by omega⟩
theorem FitTo.done {T:List (List Int)} {ch cl:List Int} (h:FitTo T ch cl T.length 0):fitB T ch cl=true:=zbl.2 h.1
theorem zgF {T:List (List Int)} {ch cl:List Int} {v w:Nat} (hv:v<T.length) (hw:w<T.length) (h:¬fitP T ch cl v w):fitB T ch cl=false:=by
 cases e:fitB T ch cl with
 | false=>rfl
 | true=>exact absurd (zbl.1 e v w hv hw) h
theorem zbd {S S2 S3:Nat→Prop} {w:World} {v vch vcl:Value} {s:SysF} {ch cl:List Int} (h:SysV S w v s) (hg:GoodS s s.N s.K) (h2:Ints S2 w vch ch) (h3:Ints S3 w vcl cl) (hl:ch.length=s.tab.length) (hl3:cl.length=s.tab.length) (hm:s.tab.length≤60000):
  Calls Tryz.prog 88 #[v,.agg #[vch],vcl] w (Post w fun _ r=>r=.bool (fitB s.tab ch cl)):=by
 have KA:Hid (∀u x,u<s.tab.length→x<s.tab.length→∀W,Below w.heap.size w W→Calls Tryz.prog 121 #[v,.agg #[vch],u,x] W (Post W fun _ r=>r=.bool (alkB s.tab ch u x))):=zhd fun u x hu hx W hW=>zaz (h.ext hW) hg (h2.ext hW) hl hu hx;have KF:Hid (∀u x,u<s.tab.length→x<s.tab.length→∀W,Below w.heap.size w W→Calls Tryz.prog 122 #[v,vcl,u,x] W (Post W fun _ r=>r=.bool (folB s.tab (nth cl) u x))):=zhd fun u x hu hx W hW=>zc0 (h.ext hW) hg (h3.ext hW) hl3 hu hx (by omega);obtain ⟨ca,cc,sa,sc,ta,tc,xa,xc,rfl,hc,hs,ht,hx⟩:=h.zf;obtain ⟨a2,c2,rfl,_⟩:=h2.form;obtain ⟨a3,c3,rfl,_⟩:=h3.form;have HQ:Hid (∀k,k<s.tab.length→∀W:World,(Instr.indexAt 36 (.slice a3 s.tab.length c3) (.int .i64 k)).run Tryz.prog W=.ok (.pointer (some (adr a3 k))) W):=zhd fun k hk W=>by
  have:=h3.idx (k:=k) (by omega) W;rw[hl3]at this;exact this
 have HC:Hid (∀k,k<s.tab.length→w.cell? (adr a3 k)=some (.int .i64 (nth cl k))):=zhd fun k hk=>h3.cellN (by omega);rw[hl3]at KF ⊢;obtain ⟨ex,R0,R1⟩:=zb2 w [s.p.n,s.p.ins,s.p.outs,.slice ca s.p.cs.length cc,s.p.an,.slice sa s.p.st.length sc,s.p.rounds,s.tn,.slice ta s.tab.length tc,.slice xa s.ex.length xc] [.slice a2 ch.length c2] 35 38;have HD:=zhd (FitTo.done (T:=s.tab) (ch:=ch) (cl:=cl));have HN:Hid (∀i j,i<s.tab.length→j<s.tab.length→¬fitP s.tab ch cl i j→fitB s.tab ch cl=false):=zhd fun i j=>zgF;have HRW:Hid (∀i,FitTo s.tab ch cl i s.tab.length→FitTo s.tab ch cl (i+1) 0):=zhd fun i=>FitTo.row;have HNX:Hid (∀i j,FitTo s.tab ch cl i j→fitP s.tab ch cl i j→FitTo s.tab ch cl i (j+1)):=zhd fun i j=>FitTo.next;have HPR:Hid (∀i j,fitP s.tab ch cl i j=(i≠j→nth cl i=nth cl j→alkB s.tab ch i j=true∧folB s.tab (nth cl) i j=true)):=zhd fun i j=>rfl;have H0:Hid (FitTo s.tab ch cl 0 0):=zhd ⟨fun i j hi=>by omega,fun j hj=>by omega⟩;obtain ⟨r,hr⟩:=zn (fitB s.tab ch cl);rw[←hr]at HD HN ⊢;obtain ⟨n,hn⟩:=zn s.tab.length;have HNE:=zhd hn;rw[←hn]at KA KF HQ HC HD HN HRW;have hn6:n≤60000:=by omega
 clear hc hs ht hx hg h2 h3 hl hl3 hm hr;go_enter Tryz.func88,Tryz.ntmps88;rw[←hn];clear hn;rw[←HNE.out]at ex R0 R1;go_wp2;go_loopw [7,8] (fun iv _ wr=>∃i:Nat,i≤n∧iv=.int .i64 i∧Hid (FitTo s.tab ch cl i 0)∧Below w.heap.size w wr∧Row wr w.heap.size 35 [s.p.n,s.p.ins,s.p.outs,.slice ca s.p.cs.length cc,s.p.an,.slice sa s.p.st.length sc,s.p.rounds,s.tn,.slice ta n tc,.slice xa s.ex.length xc]∧Row wr (w.heap.size+1) 38 [.slice a2 ch.length c2]) (fun iv _ _=>n - (intOf iv).toNat)
 case atStart=>exact ⟨0,Nat.zero_le _,rfl,H0,ex,R0,R1⟩
 case round=>
  clear ex R0 R1 H0;obtain ⟨i,hi,rfl,HF,ex,R0,R1⟩:=hrel;by_cases hlt:i<n
  case neg=>
   obtain rfl:i=n:=by omega
   have HR:=zhd (HD.out HF.out);go_wp2;go_ret;exact .mk ex (zv HR.out.symm)
  go_wp2;go_loopw [8] (fun jv wr=>∃j:Nat,j≤n∧jv=.int .i64 j∧Hid (FitTo s.tab ch cl i j)∧Below w.heap.size w wr∧Row wr w.heap.size 35 [s.p.n,s.p.ins,s.p.outs,.slice ca s.p.cs.length cc,s.p.an,.slice sa s.p.st.length sc,s.p.rounds,s.tn,.slice ta n tc,.slice xa s.ex.length xc]∧Row wr (w.heap.size+1) 38 [.slice a2 ch.length c2]) (fun jv _=>n - (intOf jv).toNat)
  case atStart=>exact ⟨0,Nat.zero_le _,rfl,HF,ex,R0,R1⟩
  case round=>
   clear ex R0 R1 HF;obtain ⟨j,hj,rfl,HF,ex,R0,R1⟩:=hrel;by_cases hjl:j<n
   case neg=>
    obtain rfl:j=n:=by omega
    have HF2:=zhd (HRW.out i HF.out);go_wp2;go_roundw
    case rel=>exact ⟨i+1,by omega,by go_num,HF2,ex,R0,R1⟩
    case measure=>simp[intOf];omega
   have KA2:=zhd (KA.out i j hlt hjl);have KF2:=zhd (KF.out i j hlt hjl);have HY:=zhd (HNX.out i j HF.out);have HX:=zhd (HN.out i j hlt hjl);rw[HPR.out]at HY HX;have q1:=HQ.out i hlt;have q2:=HQ.out j hjl;have HC1:=zhd (fun W (hW:Below w.heap.size w W)=>zi (HC.out i hlt) hW);have HC2:=zhd (fun W (hW:Below w.heap.size w W)=>zi (HC.out j hjl) hW);obtain ⟨ci,hci⟩:∃c,c=nth cl i:=⟨_,rfl⟩;obtain ⟨cj,hcj⟩:∃c,c=nth cl j:=⟨_,rfl⟩;rw[←hci,←hcj]at HY HX;rw[←hci]at HC1;rw[←hcj]at HC2;obtain ⟨a,ha⟩:=zn (alkB s.tab ch i j);obtain ⟨f,hff⟩:=zn (folB s.tab (nth cl) i j);rw[←ha]at KA2 HY HX;rw[←hff]at KF2 HY HX;have HEX:=zhd ex;have HR0:=zhd R0;have HR1:=zhd R1;have KEEP:Hid (∀w',Below wr.heap.size wr w'→(fun w':World=>w'.cell? ⟨w.heap.size,0,none⟩=some (.int .i64 s.p.n)∧w'.cell? ⟨w.heap.size,1,none⟩=some (.int .i64 s.p.ins)∧w'.cell? ⟨w.heap.size,2,none⟩=some (.int .i64 s.p.outs)∧w'.cell? ⟨w.heap.size,3,none⟩=some (.slice ca s.p.cs.length cc)∧w'.cell? ⟨w.heap.size,4,none⟩=some (.int .i64 s.p.an)∧w'.cell? ⟨w.heap.size,5,none⟩=some (.slice sa s.p.st.length sc)∧w'.cell? ⟨w.heap.size,6,none⟩=some (.int .i64 s.p.rounds)∧w'.cell? ⟨w.heap.size,7,none⟩=some (.int .i64 s.tn)∧w'.cell? ⟨w.heap.size,8,none⟩=some (.slice ta n tc)∧w'.cell? ⟨w.heap.size,9,none⟩=some (.slice xa s.ex.length xc)∧w'.cell? ⟨w.heap.size+1,0,none⟩=some (.slice a2 ch.length c2)∧w'.cell? (adr a3 i)=some (.int .i64 ci)∧w'.cell? (adr a3 j)=some (.int .i64 cj)) w'):=zhd fun w' hw=>⟨(R0.ext hw).zc 0 rfl,(R0.ext hw).zc 1 rfl,(R0.ext hw).zc 2 rfl,(R0.ext hw).zc 3 rfl,(R0.ext hw).zc 4 rfl,(R0.ext hw).zc 5 rfl,(R0.ext hw).zc 6 rfl,(R0.ext hw).zc 7 rfl,(R0.ext hw).zc 8 rfl,(R0.ext hw).zc 9 rfl,(R1.ext hw).zc 0 rfl,HC1.out _ (za ex hw),HC2.out _ (za ex hw)⟩;clear hci hcj ha hff ex R0 R1 HC1 HC2 HF;go_wp2;by_cases hij:i=j
   ·have d1:((i:Int) !=(j:Int))=false:=by rw[hij];simp
    have HF2:=zhd (HY.out fun h=>absurd hij h);clear hij HX HY;refine zC (fun w':World=>w'.cell? ⟨w.heap.size,0,none⟩=some (.int .i64 s.p.n)∧w'.cell? ⟨w.heap.size,1,none⟩=some (.int .i64 s.p.ins)∧w'.cell? ⟨w.heap.size,2,none⟩=some (.int .i64 s.p.outs)∧w'.cell? ⟨w.heap.size,3,none⟩=some (.slice ca s.p.cs.length cc)∧w'.cell? ⟨w.heap.size,4,none⟩=some (.int .i64 s.p.an)∧w'.cell? ⟨w.heap.size,5,none⟩=some (.slice sa s.p.st.length sc)∧w'.cell? ⟨w.heap.size,6,none⟩=some (.int .i64 s.p.rounds)∧w'.cell? ⟨w.heap.size,7,none⟩=some (.int .i64 s.tn)∧w'.cell? ⟨w.heap.size,8,none⟩=some (.slice ta n tc)∧w'.cell? ⟨w.heap.size,9,none⟩=some (.slice xa s.ex.length xc)∧w'.cell? ⟨w.heap.size+1,0,none⟩=some (.slice a2 ch.length c2)∧w'.cell? (adr a3 i)=some (.int .i64 ci)∧w'.cell? (adr a3 j)=some (.int .i64 cj)) (fun i=>false) (by kernel_rfl) ?_ (fun hHeld=>?_)
    ·exact KEEP.out _ (zb wr.heap.size wr 1)
    refine zt 0 hHeld ?_;refine zt 1 hHeld ?_;refine zt 2 hHeld ?_;refine zt 3 hHeld ?_;refine zq 4 rfl (by kernel_rfl) (fun _ _ _ h=>h) (by rfl) hHeld ?_;try simp only[Act.put,zsa,zsz,zss]
    refine zq 5 rfl (by kernel_rfl) (fun _ _ _ h=>h) (by rfl) hHeld ?_;try simp only[Act.put,zsa,zsz,zss]
    refine zq 6 rfl (by kernel_rfl) (fun _ _ _ h=>h) (by rfl) hHeld ?_;try simp only[Act.put,zsa,zsz,zss]
    refine zq 7 rfl (by kernel_rfl) (fun _ _ _ h=>h) (by rfl) hHeld ?_;try simp only[Act.put,zsa,zsz,zss]
    refine zq 8 rfl (by kernel_rfl) (fun _ _ _ h=>h) (by rfl) hHeld ?_;try simp only[Act.put,zsa,zsz,zss]
    refine zq 9 rfl (by kernel_rfl) (fun _ _ _ h=>h) (by rfl) hHeld ?_;try simp only[Act.put,zsa,zsz,zss]
    refine zq 10 rfl (by kernel_rfl) (fun _ _ _ h=>h) (by rfl) hHeld ?_;try simp only[Act.put,zsa,zsz,zss]
    refine zq 11 rfl (by kernel_rfl) (fun _ _ _ h=>h) (by rfl) hHeld ?_;try simp only[Act.put,zsa,zsz,zss]
    refine zq 12 rfl (by kernel_rfl) (fun _ _ _ h=>h) (by rfl) hHeld ?_;try simp only[Act.put,zsa,zsz,zss]
    refine zt 13 hHeld ?_;refine zt 14 hHeld ?_;refine zq 15 rfl (by kernel_rfl) (fun _ _ _ h=>h) (by rfl) hHeld ?_;try simp only[Act.put,zsa,zsz,zss]
    refine zq 16 rfl (by kernel_rfl) (fun _ _ _ h=>h) (by rfl) hHeld ?_;try simp only[Act.put,zsa,zsz,zss]
    refine zq 17 rfl (by kernel_rfl) (fun _ _ _ h=>h) (by rfl) hHeld ?_;try simp only[Act.put,zsa,zsz,zss]
    refine zq 18 rfl (by kernel_rfl) (fun _ _ _ h=>h) (by rfl) hHeld ?_;try simp only[Act.put,zsa,zsz,zss]
    refine zq 19 rfl (by kernel_rfl) (fun _ _ _ h=>h) (by rfl) hHeld ?_;try simp only[Act.put,zsa,zsz,zss]
    refine zq 20 rfl (by kernel_rfl) (fun _ _ _ h=>h) (by rfl) hHeld ?_;try simp only[Act.put,zsa,zsz,zss]
    refine zq 21 rfl (by kernel_rfl) (fun _ _ _ h=>h) (by rfl) hHeld ?_;try simp only[Act.put,zsa,zsz,zss]
    refine zq 22 rfl (by kernel_rfl) (fun _ _ _ h=>h) (by rfl) hHeld ?_;try simp only[Act.put,zsa,zsz,zss]
    refine zq 23 rfl (by kernel_rfl) (fun _ _ _ h=>h) (by rfl) hHeld ?_;try simp only[Act.put,zsa,zsz,zss]
    refine zq 24 rfl (by kernel_rfl) (fun _ _ _ h=>h) (by rfl) hHeld ?_;try simp only[Act.put,zsa,zsz,zss]
    refine zq 25 rfl (by kernel_rfl) (fun _ _ _ h=>h) (by rfl) hHeld ?_;try simp only[Act.put,zsa,zsz,zss]
    refine zq 26 rfl (by kernel_rfl) (fun _ _ _ h=>h) (by rfl) hHeld ?_;try simp only[Act.put,zsa,zsz,zss]
    refine zq 27 rfl (by kernel_rfl) (fun _ _ _ h=>h) (by rfl) hHeld ?_;try simp only[Act.put,zsa,zsz,zss]
    refine zq 28 rfl (by kernel_rfl) (fun _ _ _ h=>h) (by rfl) hHeld ?_;try simp only[Act.put,zsa,zsz,zss]
    refine zt 29 hHeld ?_;refine zx (by kernel_rfl) ?_ _;have ex:=za HEX.out (zb wr.heap.size wr 1);have R0':=HR0.out.ext (zb wr.heap.size wr 1);have R1':=HR1.out.ext (zb wr.heap.size wr 1);clear hHeld KEEP;go_wp2;go_roundw
    case rel=>exact ⟨j+1,by omega,by go_num,HF2,ex,R0',R1'⟩
    case measure=>simp[intOf];omega
   have d1:((i:Int) !=(j:Int))=true:=by rw[bne_iff_ne];omega
   by_cases hcc:ci=cj
   case neg=>
    have d2:(ci==cj)=false:=by simp[hcc]
    have HF2:=zhd (HY.out fun _ h=>absurd h hcc);clear hij HX HY hcc;refine zC (fun w':World=>w'.cell? ⟨w.heap.size,0,none⟩=some (.int .i64 s.p.n)∧w'.cell? ⟨w.heap.size,1,none⟩=some (.int .i64 s.p.ins)∧w'.cell? ⟨w.heap.size,2,none⟩=some (.int .i64 s.p.outs)∧w'.cell? ⟨w.heap.size,3,none⟩=some (.slice ca s.p.cs.length cc)∧w'.cell? ⟨w.heap.size,4,none⟩=some (.int .i64 s.p.an)∧w'.cell? ⟨w.heap.size,5,none⟩=some (.slice sa s.p.st.length sc)∧w'.cell? ⟨w.heap.size,6,none⟩=some (.int .i64 s.p.rounds)∧w'.cell? ⟨w.heap.size,7,none⟩=some (.int .i64 s.tn)∧w'.cell? ⟨w.heap.size,8,none⟩=some (.slice ta n tc)∧w'.cell? ⟨w.heap.size,9,none⟩=some (.slice xa s.ex.length xc)∧w'.cell? ⟨w.heap.size+1,0,none⟩=some (.slice a2 ch.length c2)∧w'.cell? (adr a3 i)=some (.int .i64 ci)∧w'.cell? (adr a3 j)=some (.int .i64 cj)) (fun i=>false) (by kernel_rfl) ?_ (fun hHeld=>?_)
    ·exact KEEP.out _ (zb wr.heap.size wr 1)
    refine zt 0 hHeld ?_;refine zt 1 hHeld ?_;refine zt 2 hHeld ?_;refine zt 3 hHeld ?_;refine zt 4 hHeld ?_;refine zt 5 hHeld ?_;refine zt 6 hHeld ?_;refine zt 7 hHeld ?_;refine zt 8 hHeld ?_;refine zt 9 hHeld ?_;refine zt 10 hHeld ?_;refine zt 11 hHeld ?_;refine zt 12 hHeld ?_;refine zt 13 hHeld ?_;refine zt 14 hHeld ?_;refine zq 15 rfl (by kernel_rfl) (fun _ _ _ h=>h) (by rfl) hHeld ?_;try simp only[Act.put,zsa,zsz,zss]
    refine zq 16 rfl (by kernel_rfl) (fun _ _ _ h=>h) (by rfl) hHeld ?_;try simp only[Act.put,zsa,zsz,zss]
    refine zq 17 rfl (by kernel_rfl) (fun _ _ _ h=>h) (by rfl) hHeld ?_;try simp only[Act.put,zsa,zsz,zss]
    refine zq 18 rfl (by kernel_rfl) (fun _ _ _ h=>h) (by rfl) hHeld ?_;try simp only[Act.put,zsa,zsz,zss]
    refine zq 19 rfl (by kernel_rfl) (fun _ _ _ h=>h) (by rfl) hHeld ?_;try simp only[Act.put,zsa,zsz,zss]
    refine zq 20 rfl (by kernel_rfl) (fun _ _ _ h=>h) (by rfl) hHeld ?_;try simp only[Act.put,zsa,zsz,zss]
    refine zq 21 rfl (by kernel_rfl) (fun _ _ _ h=>h) (by rfl) hHeld ?_;try simp only[Act.put,zsa,zsz,zss]
    refine zq 22 rfl (by kernel_rfl) (fun _ _ _ h=>h) (by rfl) hHeld ?_;try simp only[Act.put,zsa,zsz,zss]
    refine zq 23 rfl (by kernel_rfl) (fun _ _ _ h=>h) (by rfl) hHeld ?_;try simp only[Act.put,zsa,zsz,zss]
    refine zq 24 rfl (by kernel_rfl) (fun _ _ _ h=>h) (by rfl) hHeld ?_;try simp only[Act.put,zsa,zsz,zss]
    refine zq 25 rfl (by kernel_rfl) (fun _ _ _ h=>h) (by rfl) hHeld ?_;try simp only[Act.put,zsa,zsz,zss]
    refine zq 26 rfl (by kernel_rfl) (fun _ _ _ h=>h) (by rfl) hHeld ?_;try simp only[Act.put,zsa,zsz,zss]
    refine zq 27 rfl (by kernel_rfl) (fun _ _ _ h=>h) (by rfl) hHeld ?_;try simp only[Act.put,zsa,zsz,zss]
    refine zq 28 rfl (by kernel_rfl) (fun _ _ _ h=>h) (by rfl) hHeld ?_;try simp only[Act.put,zsa,zsz,zss]
    refine zt 29 hHeld ?_;refine zx (by kernel_rfl) ?_ _;have ex:=za HEX.out (zb wr.heap.size wr 1);have R0':=HR0.out.ext (zb wr.heap.size wr 1);have R1':=HR1.out.ext (zb wr.heap.size wr 1);clear hHeld KEEP;go_wp2;go_roundw
    case rel=>exact ⟨j+1,by omega,by go_num,HF2,ex,R0',R1'⟩
    case measure=>simp[intOf];omega
   have d2:(ci==cj)=true:=by simp[hcc]
   cases a with
   | false=>
    have HR:=zhd (HX.out fun h=>by have:=(h hij hcc).1;cases this);clear hij HX HY hcc;refine zC (fun w':World=>w'.cell? ⟨w.heap.size,0,none⟩=some (.int .i64 s.p.n)∧w'.cell? ⟨w.heap.size,1,none⟩=some (.int .i64 s.p.ins)∧w'.cell? ⟨w.heap.size,2,none⟩=some (.int .i64 s.p.outs)∧w'.cell? ⟨w.heap.size,3,none⟩=some (.slice ca s.p.cs.length cc)∧w'.cell? ⟨w.heap.size,4,none⟩=some (.int .i64 s.p.an)∧w'.cell? ⟨w.heap.size,5,none⟩=some (.slice sa s.p.st.length sc)∧w'.cell? ⟨w.heap.size,6,none⟩=some (.int .i64 s.p.rounds)∧w'.cell? ⟨w.heap.size,7,none⟩=some (.int .i64 s.tn)∧w'.cell? ⟨w.heap.size,8,none⟩=some (.slice ta n tc)∧w'.cell? ⟨w.heap.size,9,none⟩=some (.slice xa s.ex.length xc)∧w'.cell? ⟨w.heap.size+1,0,none⟩=some (.slice a2 ch.length c2)∧w'.cell? (adr a3 i)=some (.int .i64 ci)∧w'.cell? (adr a3 j)=some (.int .i64 cj)) (fun i=>false) (by kernel_rfl) ?_ (fun hHeld=>?_)
    ·exact KEEP.out _ (zb wr.heap.size wr 1)
    refine zt 0 hHeld ?_;refine zt 1 hHeld ?_;refine zt 2 hHeld ?_;refine zt 3 hHeld ?_;refine zt 4 hHeld ?_;refine zt 5 hHeld ?_;refine zt 6 hHeld ?_;refine zt 7 hHeld ?_;refine zt 8 hHeld ?_;refine zt 9 hHeld ?_;refine zt 10 hHeld ?_;refine zt 11 hHeld ?_;refine zt 12 hHeld ?_;refine zt 13 hHeld ?_;refine zt 14 hHeld ?_;refine zt 15 hHeld ?_;refine zt 16 hHeld ?_;refine zt 17 hHeld ?_;refine zt 18 hHeld ?_;refine zo 19 (fun K hK=>?_)
    (go_simp;go_at_call 121;refine (KA2.out _ (za HEX.out (zb wr.heap.size wr 1))).mono ?_;rintro _ v1 ⟨_,rfl,hb,rfl⟩;have y1:=za (zb wr.heap.size wr 1) hb;clear hb)
    refine zk hK (KEEP.out _ y1) (fun hHeld=>?_);clear hK K;refine zt 20 hHeld ?_;refine zt 21 hHeld ?_;refine zq 22 rfl (by kernel_rfl) (fun _ _ _ h=>h) (by rfl) hHeld ?_;try simp only[Act.put,zsa,zsz,zss]
    refine zq 23 rfl (by kernel_rfl) (fun _ _ _ h=>h) (by rfl) hHeld ?_;try simp only[Act.put,zsa,zsz,zss]
    refine zq 24 rfl (by kernel_rfl) (fun _ _ _ h=>h) (by rfl) hHeld ?_;try simp only[Act.put,zsa,zsz,zss]
    refine zq 25 rfl (by kernel_rfl) (fun _ _ _ h=>h) (by rfl) hHeld ?_;try simp only[Act.put,zsa,zsz,zss]
    refine zq 26 rfl (by kernel_rfl) (fun _ _ _ h=>h) (by rfl) hHeld ?_;try simp only[Act.put,zsa,zsz,zss]
    refine zq 27 rfl (by kernel_rfl) (fun _ _ _ h=>h) (by rfl) hHeld ?_;try simp only[Act.put,zsa,zsz,zss]
    refine zt 28 hHeld ?_;refine zt 29 hHeld ?_;refine zx (by kernel_rfl) ?_ _;have ex:=za HEX.out y1;clear hHeld KEEP;go_wp2;go_ret;exact .mk ex (zv HR.out.symm)
   | true=>
   cases f with
   | false=>
    have HR:=zhd (HX.out fun h=>by have:=(h hij hcc).2;cases this);clear hij HX HY hcc;refine zC (fun w':World=>w'.cell? ⟨w.heap.size,0,none⟩=some (.int .i64 s.p.n)∧w'.cell? ⟨w.heap.size,1,none⟩=some (.int .i64 s.p.ins)∧w'.cell? ⟨w.heap.size,2,none⟩=some (.int .i64 s.p.outs)∧w'.cell? ⟨w.heap.size,3,none⟩=some (.slice ca s.p.cs.length cc)∧w'.cell? ⟨w.heap.size,4,none⟩=some (.int .i64 s.p.an)∧w'.cell? ⟨w.heap.size,5,none⟩=some (.slice sa s.p.st.length sc)∧w'.cell? ⟨w.heap.size,6,none⟩=some (.int .i64 s.p.rounds)∧w'.cell? ⟨w.heap.size,7,none⟩=some (.int .i64 s.tn)∧w'.cell? ⟨w.heap.size,8,none⟩=some (.slice ta n tc)∧w'.cell? ⟨w.heap.size,9,none⟩=some (.slice xa s.ex.length xc)∧w'.cell? ⟨w.heap.size+1,0,none⟩=some (.slice a2 ch.length c2)∧w'.cell? (adr a3 i)=some (.int .i64 ci)∧w'.cell? (adr a3 j)=some (.int .i64 cj)) (fun i=>false) (by kernel_rfl) ?_ (fun hHeld=>?_)
    ·exact KEEP.out _ (zb wr.heap.size wr 1)
    refine zt 0 hHeld ?_;refine zt 1 hHeld ?_;refine zt 2 hHeld ?_;refine zt 3 hHeld ?_;refine zt 4 hHeld ?_;refine zt 5 hHeld ?_;refine zt 6 hHeld ?_;refine zt 7 hHeld ?_;refine zt 8 hHeld ?_;refine zt 9 hHeld ?_;refine zt 10 hHeld ?_;refine zt 11 hHeld ?_;refine zt 12 hHeld ?_;refine zt 13 hHeld ?_;refine zt 14 hHeld ?_;refine zt 15 hHeld ?_;refine zt 16 hHeld ?_;refine zt 17 hHeld ?_;refine zt 18 hHeld ?_;refine zo 19 (fun K hK=>?_)
    (go_simp;go_at_call 121;refine (KA2.out _ (za HEX.out (zb wr.heap.size wr 1))).mono ?_;rintro _ v1 ⟨_,rfl,hb,rfl⟩;have y1:=za (zb wr.heap.size wr 1) hb;clear hb)
    refine zk hK (KEEP.out _ y1) (fun hHeld=>?_);clear hK K;refine zt 20 hHeld ?_;refine zt 21 hHeld ?_;refine zt 22 hHeld ?_;refine zt 23 hHeld ?_;refine zt 24 hHeld ?_;refine zt 25 hHeld ?_;refine zo 26 (fun K hK=>?_)
    (go_simp;go_at_call 122;refine (KF2.out _ (za HEX.out y1)).mono ?_;rintro _ v2 ⟨_,rfl,hb,rfl⟩;have y2:=za y1 hb;clear hb)
    refine zk hK (KEEP.out _ y2) (fun hHeld=>?_);clear hK K;refine zt 27 hHeld ?_;refine zt 28 hHeld ?_;refine zt 29 hHeld ?_;refine zx (by kernel_rfl) ?_ _;have ex:=za HEX.out y2;clear hHeld KEEP;go_wp2;go_ret;exact .mk ex (zv HR.out.symm)
   | true=>
    have HF2:=zhd (HY.out fun _ _=>⟨rfl,rfl⟩);clear hij HX HY hcc;refine zC (fun w':World=>w'.cell? ⟨w.heap.size,0,none⟩=some (.int .i64 s.p.n)∧w'.cell? ⟨w.heap.size,1,none⟩=some (.int .i64 s.p.ins)∧w'.cell? ⟨w.heap.size,2,none⟩=some (.int .i64 s.p.outs)∧w'.cell? ⟨w.heap.size,3,none⟩=some (.slice ca s.p.cs.length cc)∧w'.cell? ⟨w.heap.size,4,none⟩=some (.int .i64 s.p.an)∧w'.cell? ⟨w.heap.size,5,none⟩=some (.slice sa s.p.st.length sc)∧w'.cell? ⟨w.heap.size,6,none⟩=some (.int .i64 s.p.rounds)∧w'.cell? ⟨w.heap.size,7,none⟩=some (.int .i64 s.tn)∧w'.cell? ⟨w.heap.size,8,none⟩=some (.slice ta n tc)∧w'.cell? ⟨w.heap.size,9,none⟩=some (.slice xa s.ex.length xc)∧w'.cell? ⟨w.heap.size+1,0,none⟩=some (.slice a2 ch.length c2)∧w'.cell? (adr a3 i)=some (.int .i64 ci)∧w'.cell? (adr a3 j)=some (.int .i64 cj)) (fun i=>false) (by kernel_rfl) ?_ (fun hHeld=>?_)
    ·exact KEEP.out _ (zb wr.heap.size wr 1)
    refine zt 0 hHeld ?_;refine zt 1 hHeld ?_;refine zt 2 hHeld ?_;refine zt 3 hHeld ?_;refine zt 4 hHeld ?_;refine zt 5 hHeld ?_;refine zt 6 hHeld ?_;refine zt 7 hHeld ?_;refine zt 8 hHeld ?_;refine zt 9 hHeld ?_;refine zt 10 hHeld ?_;refine zt 11 hHeld ?_;refine zt 12 hHeld ?_;refine zt 13 hHeld ?_;refine zt 14 hHeld ?_;refine zt 15 hHeld ?_;refine zt 16 hHeld ?_;refine zt 17 hHeld ?_;refine zt 18 hHeld ?_;refine zo 19 (fun K hK=>?_)
    (go_simp;go_at_call 121;refine (KA2.out _ (za HEX.out (zb wr.heap.size wr 1))).mono ?_;rintro _ v1 ⟨_,rfl,hb,rfl⟩;have y1:=za (zb wr.heap.size wr 1) hb;clear hb)
    refine zk hK (KEEP.out _ y1) (fun hHeld=>?_);clear hK K;refine zt 20 hHeld ?_;refine zt 21 hHeld ?_;refine zt 22 hHeld ?_;refine zt 23 hHeld ?_;refine zt 24 hHeld ?_;refine zt 25 hHeld ?_;refine zo 26 (fun K hK=>?_)
    (go_simp;go_at_call 122;refine (KF2.out _ (za HEX.out y1)).mono ?_;rintro _ v2 ⟨_,rfl,hb,rfl⟩;have y2:=za y1 hb;clear hb)
    refine zk hK (KEEP.out _ y2) (fun hHeld=>?_);clear hK K;refine zt 27 hHeld ?_;refine zt 28 hHeld ?_;refine zt 29 hHeld ?_;refine zx (by kernel_rfl) ?_ _;have ex:=za HEX.out y2;have R0':=HR0.out.ext y2;have R1':=HR1.out.ext y2;clear hHeld KEEP;go_wp2;go_roundw
    case rel=>exact ⟨j+1,by omega,by go_num,HF2,ex,R0',R1'⟩
    case measure=>simp[intOf];omega
def hrdL (T:List (List Int)) (k w:Nat):List Int:=((List.range k).filter fun u=>hrsB T u w).map fun u:Nat=>(u:Int)
def hrdLL (T:List (List Int)):List (List Int):=(List.range T.length).map (hrdL T T.length)
theorem ze7 {T:List (List Int)} {w:Nat} (h:w<T.length):nthL (hrdLL T) w=hrdL T T.length w:=by simp[hrdLL,nthL,h]
theorem YN (T:List (List Int)):(hrdLL T).length=T.length:=by simp[hrdLL]
structure ScnG (s:SysF) (ch:List Int):Prop where
 good:GoodS s s.N s.K
 len:ch.length=s.tab.length
 few:s.tab.length≤120
structure ScnV (A:Nat→Prop) (w:World) (g:Nat) (s:SysF) (ch:List Int):Prop where
 dat:ScnG s ch
 ag:A g
 mem:∃ca cc sa sc ta tc xa xc a2 c2 la lc mb,Row w g 160 [s.p.n,s.p.ins,s.p.outs,.slice ca s.p.cs.length cc,s.p.an,.slice sa s.p.st.length sc,s.p.rounds,s.tn,.slice ta s.tab.length tc,.slice xa s.ex.length xc,.slice a2 ch.length c2,.map (some mb),.slice la s.tab.length lc]∧A mb∧MapV viewKey w mb (numM s.tab) s.tab.length∧Sl (kFlat 8) A w (.slice ta s.tab.length tc) s.tab∧Ints A w (.slice a2 ch.length c2) ch∧Lists A w (.slice la s.tab.length lc) (hrdLL s.tab)
theorem ScnV.agree {A:Nat→Prop} {w w':World} {g:Nat} {s:SysF} {ch:List Int} (h:ScnV A w g s ch) (hw:Agree A w w'):ScnV A w' g s ch:=by
 obtain ⟨h1,h2,ca,cc,sa,sc,ta,tc,xa,xc,a2,c2,la,lc,mb,r1,r2,r3,r4,r5,r6⟩:=h;exact ⟨h1,h2,ca,cc,sa,sc,ta,tc,xa,xc,a2,c2,la,lc,mb,r1.agree hw h2,r2,r3.agree hw r2,r4.agree hw,r5.agree hw,r6.agree hw⟩
theorem ScnV.ext {A:Nat→Prop} {w w':World} {g:Nat} {s:SysF} {ch:List Int} (h:ScnV A w g s ch) (hw:Below w.heap.size w w'):ScnV A w' g s ch:=h.agree (.of_ext hw)
theorem ScnV.lt {A:Nat→Prop} {w:World} {g:Nat} {s:SysF} {ch:List Int} (h:ScnV A w g s ch):g<w.heap.size:=by
 obtain ⟨ca,cc,sa,sc,ta,tc,xa,xc,a2,c2,la,lc,mb,r1,_⟩:=h.mem;exact r1.lt
theorem ScnV.mono {A A':Nat→Prop} {w:World} {g:Nat} {s:SysF} {ch:List Int} (h:ScnV A w g s ch) (hA:∀b,A b→A' b):ScnV A' w g s ch:=by
 obtain ⟨h1,h2,ca,cc,sa,sc,ta,tc,xa,xc,a2,c2,la,lc,mb,r1,r2,r3,r4,r5,r6⟩:=h;exact ⟨h1,hA _ h2,ca,cc,sa,sc,ta,tc,xa,xc,a2,c2,la,lc,mb,r1,hA _ r2,r3,r4.mono hA,r5.mono hA,r6.mono hA⟩
theorem ScnV.block {A:Nat→Prop} {w:World} {g:Nat} {s:SysF} {ch:List Int} (h:ScnV A w g s ch):ScnV (fun b=>A b∧b<w.heap.size) w g s ch:=by
 obtain ⟨h1,h2,ca,cc,sa,sc,ta,tc,xa,xc,a2,c2,la,lc,mb,r1,r2,r3,r4,r5,r6⟩:=h;exact ⟨h1,⟨h2,r1.lt⟩,ca,cc,sa,sc,ta,tc,xa,xc,a2,c2,la,lc,mb,r1,⟨r2,r3.lt⟩,r3,r4.block,Ints.block r5 0,r6.block⟩
theorem zcB {A:Nat→Prop} {w:World} {g:Nat} {s:SysF} {ch:List Int} {u x:Nat} {b:Int} (h:ScnV A w g s ch) (hu:u<s.tab.length) (hx:x<s.tab.length) (hb:WF b):
  Calls Tryz.prog 57 #[.pointer (some ⟨g,0,none⟩),u,x,b] w (Post w fun _ r=>r=.int .i64 (repT s.tab u x b)):=by
 obtain ⟨ca,cc,sa,sc,ta,tc,xa,xc,a2,c2,la,lc,mb,R,_,hM,ht,hr,hL⟩:=h.mem;obtain ⟨hg,hlen,hfew⟩:=h.dat
 obtain ⟨_,_,hee,tad,_⟩:=ht.form2;cases hee;obtain ⟨i0,hi,hz⟩:=zG zJ;have HQ:=zhd (zF Tryz.underlying30 hi hz tad);have HTB:=zhd hg.tab;obtain ⟨e0,p5,_⟩:=yq HTB.out hx;have l8:=yC HTB.out hu;have HVO:=zhd (zbE l8 (zet ht hu) (j:=3+prcT s.tab x) hb);have HR:Hid (repT s.tab u x b=(if (nthL s.tab u).set (3+prcT s.tab x) b∈s.tab then ((idxV s.tab ((nthL s.tab u).set (3+prcT s.tab x) b):Nat):Int) else -1)):=zhd rfl;obtain ⟨r,hrr⟩:=zn (repT s.tab u x b);rw[←hrr]at HR ⊢;obtain ⟨y,hy⟩:=zn (nthL s.tab u);obtain ⟨q,hq⟩:=zn (prcT s.tab x);rw[←hq]at e0 p5 HR HVO;rw[←hy]at l8 HR HVO;have uq:=HQ.out u hu;have xq:=HQ.out x hx;obtain ⟨u0,ur⟩:=ht.nums (k:=u) hu (by decide);have x0:=(ht.nums (k:=x) hx (by decide)).1;rw[e0]at x0;rw[←hy]at u0 ur;have u1:=ur 1 (by decide);have u2:=ur 2 (by decide);have u3:=ur 3 (by decide);have u4:=ur 4 (by decide);have u5:=ur 5 (by decide);have u6:=ur 6 (by decide);have u7:=ur 7 (by decide);have bu:=World.block_lt_of_cell? _ _ u0;have bx:=World.block_lt_of_cell? _ _ x0;have g8:=R.zc 8 rfl;have lg:=R.lt;have ex:=ze w (.cells #[nth y 0,nth y 1,nth y 2,nth y 3,nth y 4,nth y 5,nth y 6,nth y 7] 65);have RX:Row (w.alloc (.cells #[nth y 0,nth y 1,nth y 2,nth y 3,nth y 4,nth y 5,nth y 6,nth y 7] 65)) w.heap.size 65 (y.map (Value.int .i64)):=by rw[cells8 l8];exact zg w [nth y 0,nth y 1,nth y 2,nth y 3,nth y 4,nth y 5,nth y 6,nth y 7] 65
 have xi:=xm w.heap.size 3 p5;have HL8:=zhd l8;have HMPw:=zhd hM;have HRW:=zhd R;clear ur ht hr hL tad hi hz hrr hy hq e0 hg HQ HTB l8 hu hx hb hlen hfew h hM R;go_enter Tryz.func57,Tryz.ntmps57;go_upto_region 2 with fail;obtain ⟨wx,hwx⟩:=zn (w.alloc (.cells #[nth y 0,nth y 1,nth y 2,nth y 3,nth y 4,nth y 5,nth y 6,nth y 7] 65));obtain ⟨B1,hB1⟩:=zn w.heap.size;replace x0:=zi x0 ex;have R2:=HRW.out.ext ex;have HMX:=zhd (HMPw.out.ext ex);have hgB:g≠B1:=by omega
 have hmB:mb≠B1:=by have:=HMPw.out.lt;omega
 rw[←hwx]at RX R2 ex x0 HMX ⊢;rw[←hB1]at RX xi ⊢;have hB1w:w.heap.size≤B1:=by omega
 clear hwx hB1 u0 u1 u2 u3 u4 u5 u6 u7 bu bx g8 lg HRW HMPw;have R22:=R2.grown (zj wx B1 (3+q) (.int .i64 b)) (fun e=>hgB (by injection e with e;exact e.symm));have HM2:=zhd (HMX.out.grown (zj wx B1 (3+q) (.int .i64 b)) (fun e=>hmB (by injection e with e;exact e.symm)));have RX2:=RX.set (3+q) (.int .i64 b);rw[Yu HL8.out p5,cells8 (show (y.set (3+q) b).length=8 by rw[List.length_set];exact HL8.out)]at RX2;have ex3:=ex.setCell (p:=⟨B1,3+q,none⟩) hB1w (.int .i64 b);have cx:wx.cell? ⟨B1,3+q,none⟩=some (.int .i64 (nth y (3+q))):=RX.cell (by rw[List.getElem?_map,get?_nth (by rw[HL8.out];omega)];rfl);have fx:=RX.free (3+q);have lx:=RX.lt;have bx:=World.block_lt_of_cell? _ _ x0;have g8:=R2.zc 8 rfl;have lg:=R2.lt;clear RX ex R2 HMX;go_upto_region 3 with fail;clear g8 lg x0 cx fx lx bx xq xi uq;obtain ⟨W2,hW2⟩:=zn (wx.setCell ⟨B1,3+q,none⟩ (.int .i64 b));rw[←hW2]at R22 RX2 ex3 HM2 ⊢;obtain ⟨z,hz⟩:=zn (y.set (3+q) b);rw[←hz]at RX2 HR HVO;have HKV:=zhd (qt HVO.out.1);have KEEP:Hid (∀w',Below W2.heap.size W2 w'→(fun w':World=>w'.cell? ⟨g,11,none⟩=some (.map (some mb))∧w'.cell? ⟨B1,0,none⟩=some (.int .i64 (nth z 0))∧w'.cell? ⟨B1,1,none⟩=some (.int .i64 (nth z 1))∧w'.cell? ⟨B1,2,none⟩=some (.int .i64 (nth z 2))∧w'.cell? ⟨B1,3,none⟩=some (.int .i64 (nth z 3))∧w'.cell? ⟨B1,4,none⟩=some (.int .i64 (nth z 4))∧w'.cell? ⟨B1,5,none⟩=some (.int .i64 (nth z 5))∧w'.cell? ⟨B1,6,none⟩=some (.int .i64 (nth z 6))∧w'.cell? ⟨B1,7,none⟩=some (.int .i64 (nth z 7))) w'):=zhd fun w' hw=>⟨(R22.ext hw).zc 11 rfl,(RX2.ext hw).zc 0 rfl,(RX2.ext hw).zc 1 rfl,(RX2.ext hw).zc 2 rfl,(RX2.ext hw).zc 3 rfl,(RX2.ext hw).zc 4 rfl,(RX2.ext hw).zc 5 rfl,(RX2.ext hw).zc 6 rfl,(RX2.ext hw).zc 7 rfl⟩;have HE:=zhd (za ex3 (zb W2.heap.size W2 1));have HMP:=zhd (HM2.out.ext (zb W2.heap.size W2 1));have HIN:Hid (numM s.tab z=if z∈s.tab then some (.int .i64 (idxV s.tab z:Nat)) else none):=zhd rfl;clear hW2 R22 RX2 ex3 hz HM2 HL8 wx;by_cases hin:z∈s.tab
 ·have HNM:=zhd (HIN.out.trans (if_pos hin));have HRR:=zhd (HR.out.trans (if_pos hin));clear hin HIN HR;refine zC (fun w':World=>w'.cell? ⟨g,11,none⟩=some (.map (some mb))∧w'.cell? ⟨B1,0,none⟩=some (.int .i64 (nth z 0))∧w'.cell? ⟨B1,1,none⟩=some (.int .i64 (nth z 1))∧w'.cell? ⟨B1,2,none⟩=some (.int .i64 (nth z 2))∧w'.cell? ⟨B1,3,none⟩=some (.int .i64 (nth z 3))∧w'.cell? ⟨B1,4,none⟩=some (.int .i64 (nth z 4))∧w'.cell? ⟨B1,5,none⟩=some (.int .i64 (nth z 5))∧w'.cell? ⟨B1,6,none⟩=some (.int .i64 (nth z 6))∧w'.cell? ⟨B1,7,none⟩=some (.int .i64 (nth z 7))) (fun i=>false) (by kernel_rfl) ?_ (fun hHeld=>?_)
  ·exact KEEP.out _ (zb W2.heap.size W2 1)
  refine zt 0 hHeld ?_;refine zt 1 hHeld ?_;refine zt 2 hHeld ?_;refine zt 3 hHeld ?_;refine zt 4 hHeld ?_;refine zo 5 (fun K hK=>?_)
  (refine qD rfl _ _ 134 (by rfl) 3 Tryz.underlying134 (.int .i64 0) (yj _) (by rfl) HMP.out z (by rw[HKV.out];rfl) HVO.out ?_;rw[HNM.out])
  refine zk hK (KEEP.out _ (zb W2.heap.size W2 1)) (fun hHeld=>?_);clear hK K;refine zt 6 hHeld ?_;refine zt 7 hHeld ?_;refine zt 8 hHeld ?_;refine zt 9 hHeld ?_;refine zt 10 hHeld ?_;refine zx (by kernel_rfl) ?_ _;go_wp2;go_ret;exact .mk HE.out (zm HRR.out.symm)
 ·have HNM:=zhd (HIN.out.trans (if_neg hin));have HRR:=zhd (HR.out.trans (if_neg hin));clear hin HIN HR;refine zC (fun w':World=>w'.cell? ⟨g,11,none⟩=some (.map (some mb))∧w'.cell? ⟨B1,0,none⟩=some (.int .i64 (nth z 0))∧w'.cell? ⟨B1,1,none⟩=some (.int .i64 (nth z 1))∧w'.cell? ⟨B1,2,none⟩=some (.int .i64 (nth z 2))∧w'.cell? ⟨B1,3,none⟩=some (.int .i64 (nth z 3))∧w'.cell? ⟨B1,4,none⟩=some (.int .i64 (nth z 4))∧w'.cell? ⟨B1,5,none⟩=some (.int .i64 (nth z 5))∧w'.cell? ⟨B1,6,none⟩=some (.int .i64 (nth z 6))∧w'.cell? ⟨B1,7,none⟩=some (.int .i64 (nth z 7))) (fun i=>false) (by kernel_rfl) ?_ (fun hHeld=>?_)
  ·exact KEEP.out _ (zb W2.heap.size W2 1)
  refine zt 0 hHeld ?_;refine zt 1 hHeld ?_;refine zt 2 hHeld ?_;refine zt 3 hHeld ?_;refine zt 4 hHeld ?_;refine zo 5 (fun K hK=>?_)
  (refine qD rfl _ _ 134 (by rfl) 3 Tryz.underlying134 (.int .i64 0) (yj _) (by rfl) HMP.out z (by rw[HKV.out];rfl) HVO.out ?_;rw[HNM.out])
  refine zk hK (KEEP.out _ (zb W2.heap.size W2 1)) (fun hHeld=>?_);clear hK K;refine zt 6 hHeld ?_;refine zt 7 hHeld ?_;refine zt 8 hHeld ?_;refine zt 9 hHeld ?_;refine zt 10 hHeld ?_;refine zx (by kernel_rfl) ?_ _;go_wp2;go_ret;exact .mk HE.out (zm HRR.out.symm)
def likB (T:List (List Int)) (v w:Nat):Bool:=decide (prcT T v=prcT T w)&&decide (rndT T v=rndT T w)
theorem zai {A:Nat→Prop} {w:World} {g:Nat} {s:SysF} {ch:List Int} {u x:Nat} (h:ScnV A w g s ch) (hu:u<s.tab.length) (hx:x<s.tab.length):
  Calls Tryz.prog 84 #[.pointer (some ⟨g,0,none⟩),u,x] w (Post w fun _ r=>r=.bool (likB s.tab u x)):=by
 obtain ⟨ca,cc,sa,sc,ta,tc,xa,xc,a2,c2,la,lc,mb,R,_,hM,ht,hr,hL⟩:=h.mem;obtain ⟨hg,hlen,hfew⟩:=h.dat
 obtain ⟨_,_,hee,tad,_⟩:=ht.form2;cases hee;obtain ⟨i0,hi,hz⟩:=zG zJ;have HQ:=zhd (zF Tryz.underlying30 hi hz tad);have HTB:=zhd hg.tab;have HR:Hid (likB s.tab u x=(decide (prcT s.tab u=prcT s.tab x)&&decide (rndT s.tab u=rndT s.tab x))):=zhd rfl;obtain ⟨r,hrr⟩:=zn (likB s.tab u x);rw[←hrr]at HR ⊢;have uq:=HQ.out u hu;have xq:=HQ.out x hx;obtain ⟨e0,_⟩:=yq HTB.out hx;obtain ⟨e1,_⟩:=yg HTB.out hx;obtain ⟨f0,_⟩:=yq HTB.out hu;obtain ⟨f1,_⟩:=yg HTB.out hu;have hcu:=ht.nums (k:=u) hu (by decide);have hcx:=ht.nums (k:=x) hx (by decide);obtain ⟨yu,hyu⟩:∃y,y=nthL s.tab u:=⟨_,rfl⟩;obtain ⟨yx,hyx⟩:∃y,y=nthL s.tab x:=⟨_,rfl⟩;rw[←hyu]at hcu f0 f1;rw[←hyx]at hcx e0 e1;obtain ⟨pu,hpu⟩:∃p,p=prcT s.tab u:=⟨_,rfl⟩;obtain ⟨px,hpx⟩:∃p,p=prcT s.tab x:=⟨_,rfl⟩;obtain ⟨ru,hru⟩:=zn (rndT s.tab u);obtain ⟨rx,hrx⟩:=zn (rndT s.tab x);rw[←hpu,←hpx,←hru,←hrx]at HR;rw[←hpu]at f0;rw[←hpx]at e0;rw[←hru]at f1;rw[←hrx]at e1;have HU0:=zhd f0;have HU1:=zhd f1;have HX0:=zhd e0;have HX1:=zhd e1;have KEEP:Hid (∀w',Below w.heap.size w w'→(fun w':World=>w'.cell? ⟨g,0,none⟩=some (.int .i64 s.p.n)∧w'.cell? ⟨g,7,none⟩=some (.int .i64 s.tn)∧w'.cell? ⟨g,8,none⟩=some (.slice ta s.tab.length tc)∧w'.cell? (adr ta (u * 8))=some (.int .i64 (nth yu 0))∧w'.cell? ⟨(adr ta (u * 8)).block,(adr ta (u * 8)).off+1,none⟩=some (.int .i64 (nth yu 1))∧w'.cell? ⟨(adr ta (u * 8)).block,(adr ta (u * 8)).off+2,none⟩=some (.int .i64 (nth yu 2))∧w'.cell? ⟨(adr ta (u * 8)).block,(adr ta (u * 8)).off+3,none⟩=some (.int .i64 (nth yu 3))∧w'.cell? ⟨(adr ta (u * 8)).block,(adr ta (u * 8)).off+4,none⟩=some (.int .i64 (nth yu 4))∧w'.cell? ⟨(adr ta (u * 8)).block,(adr ta (u * 8)).off+5,none⟩=some (.int .i64 (nth yu 5))∧w'.cell? ⟨(adr ta (u * 8)).block,(adr ta (u * 8)).off+6,none⟩=some (.int .i64 (nth yu 6))∧w'.cell? ⟨(adr ta (u * 8)).block,(adr ta (u * 8)).off+7,none⟩=some (.int .i64 (nth yu 7))∧w'.cell? (adr ta (x * 8))=some (.int .i64 (nth yx 0))∧w'.cell? ⟨(adr ta (x * 8)).block,(adr ta (x * 8)).off+1,none⟩=some (.int .i64 (nth yx 1))∧w'.cell? ⟨(adr ta (x * 8)).block,(adr ta (x * 8)).off+2,none⟩=some (.int .i64 (nth yx 2))∧w'.cell? ⟨(adr ta (x * 8)).block,(adr ta (x * 8)).off+3,none⟩=some (.int .i64 (nth yx 3))∧w'.cell? ⟨(adr ta (x * 8)).block,(adr ta (x * 8)).off+4,none⟩=some (.int .i64 (nth yx 4))∧w'.cell? ⟨(adr ta (x * 8)).block,(adr ta (x * 8)).off+5,none⟩=some (.int .i64 (nth yx 5))∧w'.cell? ⟨(adr ta (x * 8)).block,(adr ta (x * 8)).off+6,none⟩=some (.int .i64 (nth yx 6))∧w'.cell? ⟨(adr ta (x * 8)).block,(adr ta (x * 8)).off+7,none⟩=some (.int .i64 (nth yx 7))) w'):=zhd fun w' hw=>⟨(R.ext hw).zc 0 rfl,(R.ext hw).zc 7 rfl,(R.ext hw).zc 8 rfl,zi hcu.1 hw,zi (hcu.2 1 (by decide)) hw,zi (hcu.2 2 (by decide)) hw,zi (hcu.2 3 (by decide)) hw,zi (hcu.2 4 (by decide)) hw,zi (hcu.2 5 (by decide)) hw,zi (hcu.2 6 (by decide)) hw,zi (hcu.2 7 (by decide)) hw,zi hcx.1 hw,zi (hcx.2 1 (by decide)) hw,zi (hcx.2 2 (by decide)) hw,zi (hcx.2 3 (by decide)) hw,zi (hcx.2 4 (by decide)) hw,zi (hcx.2 5 (by decide)) hw,zi (hcx.2 6 (by decide)) hw,zi (hcx.2 7 (by decide)) hw⟩;clear hcu hcx hyu hyx hpu hpx hru hrx f0 f1 e0 e1 hu hx HQ HTB ht hr hL hM R tad hi hz hrr hg hlen hfew h;go_enter Tryz.func84,Tryz.ntmps84;go_upto_region 1 with fail;refine zC (fun w':World=>w'.cell? ⟨g,0,none⟩=some (.int .i64 s.p.n)∧w'.cell? ⟨g,7,none⟩=some (.int .i64 s.tn)∧w'.cell? ⟨g,8,none⟩=some (.slice ta s.tab.length tc)∧w'.cell? (adr ta (u * 8))=some (.int .i64 (nth yu 0))∧w'.cell? ⟨(adr ta (u * 8)).block,(adr ta (u * 8)).off+1,none⟩=some (.int .i64 (nth yu 1))∧w'.cell? ⟨(adr ta (u * 8)).block,(adr ta (u * 8)).off+2,none⟩=some (.int .i64 (nth yu 2))∧w'.cell? ⟨(adr ta (u * 8)).block,(adr ta (u * 8)).off+3,none⟩=some (.int .i64 (nth yu 3))∧w'.cell? ⟨(adr ta (u * 8)).block,(adr ta (u * 8)).off+4,none⟩=some (.int .i64 (nth yu 4))∧w'.cell? ⟨(adr ta (u * 8)).block,(adr ta (u * 8)).off+5,none⟩=some (.int .i64 (nth yu 5))∧w'.cell? ⟨(adr ta (u * 8)).block,(adr ta (u * 8)).off+6,none⟩=some (.int .i64 (nth yu 6))∧w'.cell? ⟨(adr ta (u * 8)).block,(adr ta (u * 8)).off+7,none⟩=some (.int .i64 (nth yu 7))∧w'.cell? (adr ta (x * 8))=some (.int .i64 (nth yx 0))∧w'.cell? ⟨(adr ta (x * 8)).block,(adr ta (x * 8)).off+1,none⟩=some (.int .i64 (nth yx 1))∧w'.cell? ⟨(adr ta (x * 8)).block,(adr ta (x * 8)).off+2,none⟩=some (.int .i64 (nth yx 2))∧w'.cell? ⟨(adr ta (x * 8)).block,(adr ta (x * 8)).off+3,none⟩=some (.int .i64 (nth yx 3))∧w'.cell? ⟨(adr ta (x * 8)).block,(adr ta (x * 8)).off+4,none⟩=some (.int .i64 (nth yx 4))∧w'.cell? ⟨(adr ta (x * 8)).block,(adr ta (x * 8)).off+5,none⟩=some (.int .i64 (nth yx 5))∧w'.cell? ⟨(adr ta (x * 8)).block,(adr ta (x * 8)).off+6,none⟩=some (.int .i64 (nth yx 6))∧w'.cell? ⟨(adr ta (x * 8)).block,(adr ta (x * 8)).off+7,none⟩=some (.int .i64 (nth yx 7))) (fun i=>false) (by kernel_rfl) ?_ (fun hHeld=>?_)
 ·exact KEEP.out _ (zb w.heap.size w 1)
 refine zt 0 hHeld ?_;refine zt 1 hHeld ?_;refine zt 2 hHeld ?_;refine zt 3 hHeld ?_;refine zt 4 hHeld ?_;refine zt 5 hHeld ?_;refine zt 6 hHeld ?_;refine zt 7 hHeld ?_;refine zt 8 hHeld ?_;refine zt 9 hHeld ?_;refine zt 10 hHeld ?_;refine zt 11 hHeld ?_;refine zt 12 hHeld ?_;refine zt 13 hHeld ?_;refine zt 14 hHeld ?_;refine zt 15 hHeld ?_;refine zt 16 hHeld ?_;refine zt 17 hHeld ?_;refine Zg 18 19 rfl rfl (by kernel_rfl) (fun K hK=>?_) (fun K hK=>?_)
 ·go_simp;refine zk hK (KEEP.out _ (zr (ze w (.cells #[.int .i64 0,.int .i64 0,.int .i64 0,.int .i64 0,.int .i64 0,.int .i64 0,.int .i64 0,.int .i64 0] 65)) 1)) (fun hHeld=>?_);clear hK K;refine zo 19 (fun K hK=>?_);go_simp;refine zk hK (KEEP.out _ (zr (zh (ze w (.cells #[.int .i64 0,.int .i64 0,.int .i64 0,.int .i64 0,.int .i64 0,.int .i64 0,.int .i64 0,.int .i64 0] 65)) (.cells #[.int .i64 0,.int .i64 0,.int .i64 0,.int .i64 0,.int .i64 0,.int .i64 0,.int .i64 0,.int .i64 0] 65)) 1)) (fun hHeld=>?_);clear hK K;refine zo 20 (fun K hK=>?_);go_simp;refine zk hK (KEEP.out _ (zr (zh (ze w (.cells #[nth yu 0,nth yu 1,nth yu 2,nth yu 3,nth yu 4,nth yu 5,nth yu 6,nth yu 7] 65)) (.cells #[.int .i64 0,.int .i64 0,.int .i64 0,.int .i64 0,.int .i64 0,.int .i64 0,.int .i64 0,.int .i64 0] 65)) 1)) (fun hHeld=>?_);clear hK K;refine zo 21 (fun K hK=>?_);go_simp;refine zk hK (KEEP.out _ (zr (zh (ze w (.cells #[nth yu 0,nth yu 1,nth yu 2,nth yu 3,nth yu 4,nth yu 5,nth yu 6,nth yu 7] 65)) (.cells #[nth yx 0,nth yx 1,nth yx 2,nth yx 3,nth yx 4,nth yx 5,nth yx 6,nth yx 7] 65)) 1)) (fun hHeld=>?_);clear hK K;refine zx (by kernel_rfl) ?_ _;have Ru0:=(zg w [nth yu 0,nth yu 1,nth yu 2,nth yu 3,nth yu 4,nth yu 5,nth yu 6,nth yu 7] 65).alloc (.cells #[nth yx 0,nth yx 1,nth yx 2,nth yx 3,nth yx 4,nth yx 5,nth yx 6,nth yx 7] 65);have Rx0:=zg (w.alloc (.cells #[nth yu 0,nth yu 1,nth yu 2,nth yu 3,nth yu 4,nth yu 5,nth yu 6,nth yu 7] 65)) [nth yx 0,nth yx 1,nth yx 2,nth yx 3,nth yx 4,nth yx 5,nth yx 6,nth yx 7] 65;rw[World.size_alloc]at Rx0;have e2:=zr (zh (ze w (.cells #[nth yu 0,nth yu 1,nth yu 2,nth yu 3,nth yu 4,nth yu 5,nth yu 6,nth yu 7] 65)) (.cells #[nth yx 0,nth yx 1,nth yx 2,nth yx 3,nth yx 4,nth yx 5,nth yx 6,nth yx 7] 65)) 1;have Rf:=Ru0.ext (zb _ _ 1);have Rg:=Rx0.ext (zb _ _ 1);obtain ⟨W2,hW2⟩:=zn (((w.alloc (.cells #[nth yu 0,nth yu 1,nth yu 2,nth yu 3,nth yu 4,nth yu 5,nth yu 6,nth yu 7] 65)).alloc (.cells #[nth yx 0,nth yx 1,nth yx 2,nth yx 3,nth yx 4,nth yx 5,nth yx 6,nth yx 7] 65)).drewN 1);have hW3:((w.alloc (.cells #[nth yu 0,nth yu 1,nth yu 2,nth yu 3,nth yu 4,nth yu 5,nth yu 6,nth yu 7] 65)).alloc (.cells #[nth yx 0,nth yx 1,nth yx 2,nth yx 3,nth yx 4,nth yx 5,nth yx 6,nth yx 7] 65)).drew=W2:=hW2.symm;rw[←hW2]at e2 Rf Rg;rw[hW3];have u0:=Rf.zc 0 rfl;have u1:=Rf.zc 1 rfl;have x0:=Rg.zc 0 rfl;have x1:=Rg.zc 1 rfl;have lf:=Rf.lt;have lg:=Rg.lt;clear hHeld hW2 hW3 Rf Rg Ru0 Rx0;rw[HU0.out]at u0;rw[HU1.out]at u1;rw[HX0.out]at x0;rw[HX1.out]at x1;have HE:=zhd e2;clear KEEP e2;by_cases hp:pu=px
  case neg=>
   have d1:((pu:Int)==(px:Int))=false:=by rw[beq_eq_false_iff_ne];omega
   have RE:=zhd (HR.out.trans (by rw[decide_eq_false hp,Bool.false_and]));clear hp HR;go_wp2;go_ret;exact .mk HE.out (zv RE.out.symm)
  have d1:((pu:Int)==(px:Int))=true:=by rw[hp];simp
  by_cases hrr:ru=rx
  case neg=>
   have d2:((ru:Int)==(rx:Int))=false:=by rw[beq_eq_false_iff_ne];omega
   have RE:=zhd (HR.out.trans (by rw[decide_eq_false hrr,Bool.and_false]));clear hp hrr HR;go_wp2;go_ret;exact .mk HE.out (zv RE.out.symm)
  have d2:((ru:Int)==(rx:Int))=true:=by rw[hrr];simp
  have RE:=zhd (HR.out.trans (by rw[decide_eq_true hp,decide_eq_true hrr,Bool.and_self]));clear hp hrr HR;go_wp2;go_ret;exact .mk HE.out (zv RE.out.symm)
 ·go_simp;refine zk hK (KEEP.out _ (zr (ze w (.cells #[.int .i64 0,.int .i64 0,.int .i64 0,.int .i64 0,.int .i64 0,.int .i64 0,.int .i64 0,.int .i64 0] 65)) 1)) (fun hHeld=>?_);clear hK K;refine zo 18 (fun K hK=>?_);go_simp;refine zk hK (KEEP.out _ (zr (zh (ze w (.cells #[.int .i64 0,.int .i64 0,.int .i64 0,.int .i64 0,.int .i64 0,.int .i64 0,.int .i64 0,.int .i64 0] 65)) (.cells #[.int .i64 0,.int .i64 0,.int .i64 0,.int .i64 0,.int .i64 0,.int .i64 0,.int .i64 0,.int .i64 0] 65)) 1)) (fun hHeld=>?_);clear hK K;refine zo 20 (fun K hK=>?_);go_simp;refine zk hK (KEEP.out _ (zr (zh (ze w (.cells #[.int .i64 0,.int .i64 0,.int .i64 0,.int .i64 0,.int .i64 0,.int .i64 0,.int .i64 0,.int .i64 0] 65)) (.cells #[nth yu 0,nth yu 1,nth yu 2,nth yu 3,nth yu 4,nth yu 5,nth yu 6,nth yu 7] 65)) 1)) (fun hHeld=>?_);clear hK K;refine zo 21 (fun K hK=>?_);go_simp;refine zk hK (KEEP.out _ (zr (zh (ze w (.cells #[nth yx 0,nth yx 1,nth yx 2,nth yx 3,nth yx 4,nth yx 5,nth yx 6,nth yx 7] 65)) (.cells #[nth yu 0,nth yu 1,nth yu 2,nth yu 3,nth yu 4,nth yu 5,nth yu 6,nth yu 7] 65)) 1)) (fun hHeld=>?_);clear hK K;refine zx (by kernel_rfl) ?_ _;have Rx0:=(zg w [nth yx 0,nth yx 1,nth yx 2,nth yx 3,nth yx 4,nth yx 5,nth yx 6,nth yx 7] 65).alloc (.cells #[nth yu 0,nth yu 1,nth yu 2,nth yu 3,nth yu 4,nth yu 5,nth yu 6,nth yu 7] 65);have Ru0:=zg (w.alloc (.cells #[nth yx 0,nth yx 1,nth yx 2,nth yx 3,nth yx 4,nth yx 5,nth yx 6,nth yx 7] 65)) [nth yu 0,nth yu 1,nth yu 2,nth yu 3,nth yu 4,nth yu 5,nth yu 6,nth yu 7] 65;rw[World.size_alloc]at Ru0;have e2:=zr (zh (ze w (.cells #[nth yx 0,nth yx 1,nth yx 2,nth yx 3,nth yx 4,nth yx 5,nth yx 6,nth yx 7] 65)) (.cells #[nth yu 0,nth yu 1,nth yu 2,nth yu 3,nth yu 4,nth yu 5,nth yu 6,nth yu 7] 65)) 1;have Rf:=Rx0.ext (zb _ _ 1);have Rg:=Ru0.ext (zb _ _ 1);obtain ⟨W2,hW2⟩:=zn (((w.alloc (.cells #[nth yx 0,nth yx 1,nth yx 2,nth yx 3,nth yx 4,nth yx 5,nth yx 6,nth yx 7] 65)).alloc (.cells #[nth yu 0,nth yu 1,nth yu 2,nth yu 3,nth yu 4,nth yu 5,nth yu 6,nth yu 7] 65)).drewN 1);have hW3:((w.alloc (.cells #[nth yx 0,nth yx 1,nth yx 2,nth yx 3,nth yx 4,nth yx 5,nth yx 6,nth yx 7] 65)).alloc (.cells #[nth yu 0,nth yu 1,nth yu 2,nth yu 3,nth yu 4,nth yu 5,nth yu 6,nth yu 7] 65)).drew=W2:=hW2.symm;rw[←hW2]at e2 Rf Rg;rw[hW3];have x0:=Rf.zc 0 rfl;have x1:=Rf.zc 1 rfl;have u0:=Rg.zc 0 rfl;have u1:=Rg.zc 1 rfl;have lf:=Rf.lt;have lg:=Rg.lt;clear hHeld hW2 hW3 Rf Rg Rx0 Ru0;rw[HU0.out]at u0;rw[HU1.out]at u1;rw[HX0.out]at x0;rw[HX1.out]at x1;have HE:=zhd e2;clear KEEP e2;by_cases hp:pu=px
  case neg=>
   have d1:((pu:Int)==(px:Int))=false:=by rw[beq_eq_false_iff_ne];omega
   have RE:=zhd (HR.out.trans (by rw[decide_eq_false hp,Bool.false_and]));clear hp HR;go_wp2;go_ret;exact .mk HE.out (zv RE.out.symm)
  have d1:((pu:Int)==(px:Int))=true:=by rw[hp];simp
  by_cases hrr:ru=rx
  case neg=>
   have d2:((ru:Int)==(rx:Int))=false:=by rw[beq_eq_false_iff_ne];omega
   have RE:=zhd (HR.out.trans (by rw[decide_eq_false hrr,Bool.and_false]));clear hp hrr HR;go_wp2;go_ret;exact .mk HE.out (zv RE.out.symm)
  have d2:((ru:Int)==(rx:Int))=true:=by rw[hrr];simp
  have RE:=zhd (HR.out.trans (by rw[decide_eq_true hp,decide_eq_true hrr,Bool.and_self]));clear hp hrr HR;go_wp2;go_ret;exact .mk HE.out (zv RE.out.symm)
end Go.Proofs.YtiabbjolepnjkaaGreat
