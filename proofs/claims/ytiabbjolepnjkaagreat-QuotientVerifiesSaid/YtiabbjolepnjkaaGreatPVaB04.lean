/- Part of the proof that the laws answer true for every input. -/
import Derived.Test.YtiabbjolepnjkaaGreatPVaB03
set_option linter.unusedSimpArgs false
set_option linter.unnecessarySimpa false
set_option linter.unusedVariables false
set_option maxRecDepth 100000
set_option maxHeartbeats 40000000
namespace Go.Proofs.YtiabbjolepnjkaaGreat
open Go.RowKit
attribute [local go_sem ↓] Go.wp_at_zero Go.wp_at_succ
def FitTo (T:List (List Int)) (ch cl:List Int) (v w:Nat):Prop:=(∀i j,i<v→j<T.length→fitP T ch cl i j)∧∀j,j<w→fitP T ch cl v j
theorem FitTo.next {T:List (List Int)} {ch cl:List Int} {v w:Nat} (h:FitTo T ch cl v w) (hp:fitP T ch cl v w):FitTo T ch cl v (w+1):=⟨h.1,fun j hj=>by
 by_cases e:j=w
 ·subst e;exact hp
 ·exact h.2 j (by omega)⟩
theorem FitTo.row {T:List (List Int)} {ch cl:List Int} {v:Nat} (h:FitTo T ch cl v T.length):FitTo T ch cl (v+1) 0:=⟨fun i j hi hj=>by
 by_cases e:i=v
 ·subst e;exact h.2 j hj
 ·exact h.1 i j (by omega) hj,fun j hj=>by omega⟩
theorem FitTo.done {T:List (List Int)} {ch cl:List Int} (h:FitTo T ch cl T.length 0):fitB T ch cl=true:=zbR.2 h.1
theorem zgz {T:List (List Int)} {ch cl:List Int} {v w:Nat} (hv:v<T.length) (hw:w<T.length) (h:¬fitP T ch cl v w):fitB T ch cl=false:=by
 cases e:fitB T ch cl with
 | false=>rfl
 | true=>exact absurd (zbR.1 e v w hv hw) h
theorem zbt {S S2 S3:Nat→Prop} {w:World} {v vch vcl:Value} {s:SysF} {ch cl:List Int} (h:SysV S w v s) (hg:GoodS s s.N s.K) (h2:Ints S2 w vch ch) (h3:Ints S3 w vcl cl) (hl:ch.length=s.tab.length) (hl3:cl.length=s.tab.length) (hm:s.tab.length≤60000):
  Calls Tryz.prog 88 #[v,.agg #[vch],vcl] w (Post w fun _ r=>r=.bool (fitB s.tab ch cl)):=by
 have KA:Hid (∀u x,u<s.tab.length→x<s.tab.length→∀W,Below w.heap.size w W→Calls Tryz.prog 121 #[v,.agg #[vch],u,x] W (Post W fun _ r=>r=.bool (alkB s.tab ch u x))):=zhd fun u x hu hx W hW=>za3 (h.ext hW) hg (h2.ext hW) hl hu hx;have KF:Hid (∀u x,u<s.tab.length→x<s.tab.length→∀W,Below w.heap.size w W→Calls Tryz.prog 122 #[v,vcl,u,x] W (Post W fun _ r=>r=.bool (folB s.tab (nth cl) u x))):=zhd fun u x hu hx W hW=>zcN (h.ext hW) hg (h3.ext hW) hl3 hu hx (by omega);obtain ⟨ca,cc,sa,sc,ta,tc,xa,xc,rfl,hc,hs,ht,hx⟩:=h.zf;obtain ⟨a2,c2,rfl,_⟩:=h2.form;obtain ⟨a3,c3,rfl,_⟩:=h3.form;have HQ:Hid (∀k,k<s.tab.length→∀W:World,(Instr.indexAt 36 (.slice a3 s.tab.length c3) (.int .i64 k)).run Tryz.prog W=.ok (.pointer (some (adr a3 k))) W):=zhd fun k hk W=>by
  have:=h3.idx (k:=k) (by omega) W;rw[hl3]at this;exact this
 have HC:Hid (∀k,k<s.tab.length→w.cell? (adr a3 k)=some (.int .i64 (nth cl k))):=zhd fun k hk=>h3.cellN (by omega);rw[hl3]at KF ⊢;obtain ⟨ex,R0,R1⟩:=zb2 w [s.p.n,s.p.ins,s.p.outs,.slice ca s.p.cs.length cc,s.p.an,.slice sa s.p.st.length sc,s.p.rounds,s.tn,.slice ta s.tab.length tc,.slice xa s.ex.length xc] [.slice a2 ch.length c2] 35 38;have HD:=zhd (FitTo.done (T:=s.tab) (ch:=ch) (cl:=cl));have HN:Hid (∀i j,i<s.tab.length→j<s.tab.length→¬fitP s.tab ch cl i j→fitB s.tab ch cl=false):=zhd fun i j=>zgz;have HRW:Hid (∀i,FitTo s.tab ch cl i s.tab.length→FitTo s.tab ch cl (i+1) 0):=zhd fun i=>FitTo.row;have HNX:Hid (∀i j,FitTo s.tab ch cl i j→fitP s.tab ch cl i j→FitTo s.tab ch cl i (j+1)):=zhd fun i j=>FitTo.next;have HPR:Hid (∀i j,fitP s.tab ch cl i j=(i≠j→nth cl i=nth cl j→alkB s.tab ch i j=true∧folB s.tab (nth cl) i j=true)):=zhd fun i j=>rfl;have H0:Hid (FitTo s.tab ch cl 0 0):=zhd ⟨fun i j hi=>by omega,fun j hj=>by omega⟩;obtain ⟨r,hr⟩:=zn (fitB s.tab ch cl);rw[←hr]at HD HN ⊢;obtain ⟨n,hn⟩:=zn s.tab.length;have HNE:=zhd hn;rw[←hn]at KA KF HQ HC HD HN HRW;have hn6:n≤60000:=by omega
 clear hc hs ht hx hg h2 h3 hl hl3 hm hr;go_enter Tryz.func88,Tryz.ntmps88;rw[←hn];clear hn;rw[←HNE.out]at ex R0 R1;go_wp2;go_loopw [7,8] (fun iv _ wr=>∃i:Nat,i≤n∧iv=.int .i64 i∧Hid (FitTo s.tab ch cl i 0)∧Below w.heap.size w wr∧Row wr w.heap.size 35 [s.p.n,s.p.ins,s.p.outs,.slice ca s.p.cs.length cc,s.p.an,.slice sa s.p.st.length sc,s.p.rounds,s.tn,.slice ta n tc,.slice xa s.ex.length xc]∧Row wr (w.heap.size+1) 38 [.slice a2 ch.length c2]) (fun iv _ _=>n - (intOf iv).toNat)
 case atStart=>exact ⟨0,Nat.zero_le _,rfl,H0,ex,R0,R1⟩
 case round=>
  clear ex R0 R1 H0;obtain ⟨i,hi,rfl,HF,ex,R0,R1⟩:=hrel;by_cases hlt:i<n
  case neg=>
   obtain rfl:i=n:=by omega
   have HR:=zhd (HD.out HF.out);go_wp2;go_ret;exact .mk ex (zy HR.out.symm)
  go_wp2;go_loopw [8] (fun jv wr=>∃j:Nat,j≤n∧jv=.int .i64 j∧Hid (FitTo s.tab ch cl i j)∧Below w.heap.size w wr∧Row wr w.heap.size 35 [s.p.n,s.p.ins,s.p.outs,.slice ca s.p.cs.length cc,s.p.an,.slice sa s.p.st.length sc,s.p.rounds,s.tn,.slice ta n tc,.slice xa s.ex.length xc]∧Row wr (w.heap.size+1) 38 [.slice a2 ch.length c2]) (fun jv _=>n - (intOf jv).toNat)
  case atStart=>exact ⟨0,Nat.zero_le _,rfl,HF,ex,R0,R1⟩
  case round=>
   clear ex R0 R1 HF;obtain ⟨j,hj,rfl,HF,ex,R0,R1⟩:=hrel;by_cases hjl:j<n
   case neg=>
    obtain rfl:j=n:=by omega
    have HF2:=zhd (HRW.out i HF.out);go_wp2;go_roundw
    case rel=>exact ⟨i+1,by omega,by go_num,HF2,ex,R0,R1⟩
    case measure=>simp[intOf];omega
   have KA2:=zhd (KA.out i j hlt hjl);have KF2:=zhd (KF.out i j hlt hjl);have HY:=zhd (HNX.out i j HF.out);have HX:=zhd (HN.out i j hlt hjl);rw[HPR.out]at HY HX;have q1:=HQ.out i hlt;have q2:=HQ.out j hjl;have HC1:=zhd (fun W (hW:Below w.heap.size w W)=>zi (HC.out i hlt) hW);have HC2:=zhd (fun W (hW:Below w.heap.size w W)=>zi (HC.out j hjl) hW);obtain ⟨ci,hci⟩:∃c,c=nth cl i:=⟨_,rfl⟩;obtain ⟨cj,hcj⟩:∃c,c=nth cl j:=⟨_,rfl⟩;rw[←hci,←hcj]at HY HX;rw[←hci]at HC1;rw[←hcj]at HC2;obtain ⟨a,ha⟩:=zn (alkB s.tab ch i j);obtain ⟨f,hff⟩:=zn (folB s.tab (nth cl) i j);rw[←ha]at KA2 HY HX;rw[←hff]at KF2 HY HX;have HEX:=zhd ex;have HR0:=zhd R0;have HR1:=zhd R1;have KEEP:Hid (∀w',Below wr.heap.size wr w'→(fun w':World=>w'.cell? ⟨w.heap.size,0,none⟩=some (.int .i64 s.p.n)∧w'.cell? ⟨w.heap.size,1,none⟩=some (.int .i64 s.p.ins)∧w'.cell? ⟨w.heap.size,2,none⟩=some (.int .i64 s.p.outs)∧w'.cell? ⟨w.heap.size,3,none⟩=some (.slice ca s.p.cs.length cc)∧w'.cell? ⟨w.heap.size,4,none⟩=some (.int .i64 s.p.an)∧w'.cell? ⟨w.heap.size,5,none⟩=some (.slice sa s.p.st.length sc)∧w'.cell? ⟨w.heap.size,6,none⟩=some (.int .i64 s.p.rounds)∧w'.cell? ⟨w.heap.size,7,none⟩=some (.int .i64 s.tn)∧w'.cell? ⟨w.heap.size,8,none⟩=some (.slice ta n tc)∧w'.cell? ⟨w.heap.size,9,none⟩=some (.slice xa s.ex.length xc)∧w'.cell? ⟨w.heap.size+1,0,none⟩=some (.slice a2 ch.length c2)∧w'.cell? (adr a3 i)=some (.int .i64 ci)∧w'.cell? (adr a3 j)=some (.int .i64 cj)) w'):=zhd fun w' hw=>⟨(R0.ext hw).zc 0 rfl,(R0.ext hw).zc 1 rfl,(R0.ext hw).zc 2 rfl,(R0.ext hw).zc 3 rfl,(R0.ext hw).zc 4 rfl,(R0.ext hw).zc 5 rfl,(R0.ext hw).zc 6 rfl,(R0.ext hw).zc 7 rfl,(R0.ext hw).zc 8 rfl,(R0.ext hw).zc 9 rfl,(R1.ext hw).zc 0 rfl,HC1.out _ (za ex hw),HC2.out _ (za ex hw)⟩;clear hci hcj ha hff ex R0 R1 HC1 HC2 HF;go_wp2;by_cases hij:i=j
   ·have d1:((i:Int) !=(j:Int))=false:=by rw[hij];simp
    have HF2:=zhd (HY.out fun h=>absurd hij h);clear hij HX HY;refine zE (fun w':World=>w'.cell? ⟨w.heap.size,0,none⟩=some (.int .i64 s.p.n)∧w'.cell? ⟨w.heap.size,1,none⟩=some (.int .i64 s.p.ins)∧w'.cell? ⟨w.heap.size,2,none⟩=some (.int .i64 s.p.outs)∧w'.cell? ⟨w.heap.size,3,none⟩=some (.slice ca s.p.cs.length cc)∧w'.cell? ⟨w.heap.size,4,none⟩=some (.int .i64 s.p.an)∧w'.cell? ⟨w.heap.size,5,none⟩=some (.slice sa s.p.st.length sc)∧w'.cell? ⟨w.heap.size,6,none⟩=some (.int .i64 s.p.rounds)∧w'.cell? ⟨w.heap.size,7,none⟩=some (.int .i64 s.tn)∧w'.cell? ⟨w.heap.size,8,none⟩=some (.slice ta n tc)∧w'.cell? ⟨w.heap.size,9,none⟩=some (.slice xa s.ex.length xc)∧w'.cell? ⟨w.heap.size+1,0,none⟩=some (.slice a2 ch.length c2)∧w'.cell? (adr a3 i)=some (.int .i64 ci)∧w'.cell? (adr a3 j)=some (.int .i64 cj)) (fun i=>false) (by kernel_rfl) ?_ (fun hHeld=>?_)
    ·exact KEEP.out _ (zb wr.heap.size wr 1)
    refine zt 0 hHeld ?_;refine zt 1 hHeld ?_;refine zt 2 hHeld ?_;refine zt 3 hHeld ?_;refine zr 4 rfl (by kernel_rfl) (fun _ _ _ h=>h) (by rfl) hHeld ?_;try simp only[Act.put,zsa,zsz,zss]
    refine zr 5 rfl (by kernel_rfl) (fun _ _ _ h=>h) (by rfl) hHeld ?_;try simp only[Act.put,zsa,zsz,zss]
    refine zr 6 rfl (by kernel_rfl) (fun _ _ _ h=>h) (by rfl) hHeld ?_;try simp only[Act.put,zsa,zsz,zss]
    refine zr 7 rfl (by kernel_rfl) (fun _ _ _ h=>h) (by rfl) hHeld ?_;try simp only[Act.put,zsa,zsz,zss]
    refine zr 8 rfl (by kernel_rfl) (fun _ _ _ h=>h) (by rfl) hHeld ?_;try simp only[Act.put,zsa,zsz,zss]
    refine zr 9 rfl (by kernel_rfl) (fun _ _ _ h=>h) (by rfl) hHeld ?_;try simp only[Act.put,zsa,zsz,zss]
    refine zr 10 rfl (by kernel_rfl) (fun _ _ _ h=>h) (by rfl) hHeld ?_;try simp only[Act.put,zsa,zsz,zss]
    refine zr 11 rfl (by kernel_rfl) (fun _ _ _ h=>h) (by rfl) hHeld ?_;try simp only[Act.put,zsa,zsz,zss]
    refine zr 12 rfl (by kernel_rfl) (fun _ _ _ h=>h) (by rfl) hHeld ?_;try simp only[Act.put,zsa,zsz,zss]
    refine zt 13 hHeld ?_;refine zt 14 hHeld ?_;refine zr 15 rfl (by kernel_rfl) (fun _ _ _ h=>h) (by rfl) hHeld ?_;try simp only[Act.put,zsa,zsz,zss]
    refine zr 16 rfl (by kernel_rfl) (fun _ _ _ h=>h) (by rfl) hHeld ?_;try simp only[Act.put,zsa,zsz,zss]
    refine zr 17 rfl (by kernel_rfl) (fun _ _ _ h=>h) (by rfl) hHeld ?_;try simp only[Act.put,zsa,zsz,zss]
    refine zr 18 rfl (by kernel_rfl) (fun _ _ _ h=>h) (by rfl) hHeld ?_;try simp only[Act.put,zsa,zsz,zss]
    refine zr 19 rfl (by kernel_rfl) (fun _ _ _ h=>h) (by rfl) hHeld ?_;try simp only[Act.put,zsa,zsz,zss]
    refine zr 20 rfl (by kernel_rfl) (fun _ _ _ h=>h) (by rfl) hHeld ?_;try simp only[Act.put,zsa,zsz,zss]
    refine zr 21 rfl (by kernel_rfl) (fun _ _ _ h=>h) (by rfl) hHeld ?_;try simp only[Act.put,zsa,zsz,zss]
    refine zr 22 rfl (by kernel_rfl) (fun _ _ _ h=>h) (by rfl) hHeld ?_;try simp only[Act.put,zsa,zsz,zss]
    refine zr 23 rfl (by kernel_rfl) (fun _ _ _ h=>h) (by rfl) hHeld ?_;try simp only[Act.put,zsa,zsz,zss]
    refine zr 24 rfl (by kernel_rfl) (fun _ _ _ h=>h) (by rfl) hHeld ?_;try simp only[Act.put,zsa,zsz,zss]
    refine zr 25 rfl (by kernel_rfl) (fun _ _ _ h=>h) (by rfl) hHeld ?_;try simp only[Act.put,zsa,zsz,zss]
    refine zr 26 rfl (by kernel_rfl) (fun _ _ _ h=>h) (by rfl) hHeld ?_;try simp only[Act.put,zsa,zsz,zss]
    refine zr 27 rfl (by kernel_rfl) (fun _ _ _ h=>h) (by rfl) hHeld ?_;try simp only[Act.put,zsa,zsz,zss]
    refine zr 28 rfl (by kernel_rfl) (fun _ _ _ h=>h) (by rfl) hHeld ?_;try simp only[Act.put,zsa,zsz,zss]
    refine zt 29 hHeld ?_;refine zz (by kernel_rfl) ?_ _;have ex:=za HEX.out (zb wr.heap.size wr 1);have R0':=HR0.out.ext (zb wr.heap.size wr 1);have R1':=HR1.out.ext (zb wr.heap.size wr 1);clear hHeld KEEP;go_wp2;go_roundw
    case rel=>exact ⟨j+1,by omega,by go_num,HF2,ex,R0',R1'⟩
    case measure=>simp[intOf];omega
   have d1:((i:Int) !=(j:Int))=true:=by rw[bne_iff_ne];omega
   by_cases hcc:ci=cj
   case neg=>
    have d2:(ci==cj)=false:=by simp[hcc]
    have HF2:=zhd (HY.out fun _ h=>absurd h hcc);clear hij HX HY hcc;refine zE (fun w':World=>w'.cell? ⟨w.heap.size,0,none⟩=some (.int .i64 s.p.n)∧w'.cell? ⟨w.heap.size,1,none⟩=some (.int .i64 s.p.ins)∧w'.cell? ⟨w.heap.size,2,none⟩=some (.int .i64 s.p.outs)∧w'.cell? ⟨w.heap.size,3,none⟩=some (.slice ca s.p.cs.length cc)∧w'.cell? ⟨w.heap.size,4,none⟩=some (.int .i64 s.p.an)∧w'.cell? ⟨w.heap.size,5,none⟩=some (.slice sa s.p.st.length sc)∧w'.cell? ⟨w.heap.size,6,none⟩=some (.int .i64 s.p.rounds)∧w'.cell? ⟨w.heap.size,7,none⟩=some (.int .i64 s.tn)∧w'.cell? ⟨w.heap.size,8,none⟩=some (.slice ta n tc)∧w'.cell? ⟨w.heap.size,9,none⟩=some (.slice xa s.ex.length xc)∧w'.cell? ⟨w.heap.size+1,0,none⟩=some (.slice a2 ch.length c2)∧w'.cell? (adr a3 i)=some (.int .i64 ci)∧w'.cell? (adr a3 j)=some (.int .i64 cj)) (fun i=>false) (by kernel_rfl) ?_ (fun hHeld=>?_)
    ·exact KEEP.out _ (zb wr.heap.size wr 1)
    refine zt 0 hHeld ?_;refine zt 1 hHeld ?_;refine zt 2 hHeld ?_;refine zt 3 hHeld ?_;refine zt 4 hHeld ?_;refine zt 5 hHeld ?_;refine zt 6 hHeld ?_;refine zt 7 hHeld ?_;refine zt 8 hHeld ?_;refine zt 9 hHeld ?_;refine zt 10 hHeld ?_;refine zt 11 hHeld ?_;refine zt 12 hHeld ?_;refine zt 13 hHeld ?_;refine zt 14 hHeld ?_;refine zr 15 rfl (by kernel_rfl) (fun _ _ _ h=>h) (by rfl) hHeld ?_;try simp only[Act.put,zsa,zsz,zss]
    refine zr 16 rfl (by kernel_rfl) (fun _ _ _ h=>h) (by rfl) hHeld ?_;try simp only[Act.put,zsa,zsz,zss]
    refine zr 17 rfl (by kernel_rfl) (fun _ _ _ h=>h) (by rfl) hHeld ?_;try simp only[Act.put,zsa,zsz,zss]
    refine zr 18 rfl (by kernel_rfl) (fun _ _ _ h=>h) (by rfl) hHeld ?_;try simp only[Act.put,zsa,zsz,zss]
    refine zr 19 rfl (by kernel_rfl) (fun _ _ _ h=>h) (by rfl) hHeld ?_;try simp only[Act.put,zsa,zsz,zss]
    refine zr 20 rfl (by kernel_rfl) (fun _ _ _ h=>h) (by rfl) hHeld ?_;try simp only[Act.put,zsa,zsz,zss]
    refine zr 21 rfl (by kernel_rfl) (fun _ _ _ h=>h) (by rfl) hHeld ?_;try simp only[Act.put,zsa,zsz,zss]
    refine zr 22 rfl (by kernel_rfl) (fun _ _ _ h=>h) (by rfl) hHeld ?_;try simp only[Act.put,zsa,zsz,zss]
    refine zr 23 rfl (by kernel_rfl) (fun _ _ _ h=>h) (by rfl) hHeld ?_;try simp only[Act.put,zsa,zsz,zss]
    refine zr 24 rfl (by kernel_rfl) (fun _ _ _ h=>h) (by rfl) hHeld ?_;try simp only[Act.put,zsa,zsz,zss]
    refine zr 25 rfl (by kernel_rfl) (fun _ _ _ h=>h) (by rfl) hHeld ?_;try simp only[Act.put,zsa,zsz,zss]
    refine zr 26 rfl (by kernel_rfl) (fun _ _ _ h=>h) (by rfl) hHeld ?_;try simp only[Act.put,zsa,zsz,zss]
    refine zr 27 rfl (by kernel_rfl) (fun _ _ _ h=>h) (by rfl) hHeld ?_;try simp only[Act.put,zsa,zsz,zss]
    refine zr 28 rfl (by kernel_rfl) (fun _ _ _ h=>h) (by rfl) hHeld ?_;try simp only[Act.put,zsa,zsz,zss]
    refine zt 29 hHeld ?_;refine zz (by kernel_rfl) ?_ _;have ex:=za HEX.out (zb wr.heap.size wr 1);have R0':=HR0.out.ext (zb wr.heap.size wr 1);have R1':=HR1.out.ext (zb wr.heap.size wr 1);clear hHeld KEEP;go_wp2;go_roundw
    case rel=>exact ⟨j+1,by omega,by go_num,HF2,ex,R0',R1'⟩
    case measure=>simp[intOf];omega
   have d2:(ci==cj)=true:=by simp[hcc]
   cases a with
   | false=>
    have HR:=zhd (HX.out fun h=>by have:=(h hij hcc).1;cases this);clear hij HX HY hcc;refine zE (fun w':World=>w'.cell? ⟨w.heap.size,0,none⟩=some (.int .i64 s.p.n)∧w'.cell? ⟨w.heap.size,1,none⟩=some (.int .i64 s.p.ins)∧w'.cell? ⟨w.heap.size,2,none⟩=some (.int .i64 s.p.outs)∧w'.cell? ⟨w.heap.size,3,none⟩=some (.slice ca s.p.cs.length cc)∧w'.cell? ⟨w.heap.size,4,none⟩=some (.int .i64 s.p.an)∧w'.cell? ⟨w.heap.size,5,none⟩=some (.slice sa s.p.st.length sc)∧w'.cell? ⟨w.heap.size,6,none⟩=some (.int .i64 s.p.rounds)∧w'.cell? ⟨w.heap.size,7,none⟩=some (.int .i64 s.tn)∧w'.cell? ⟨w.heap.size,8,none⟩=some (.slice ta n tc)∧w'.cell? ⟨w.heap.size,9,none⟩=some (.slice xa s.ex.length xc)∧w'.cell? ⟨w.heap.size+1,0,none⟩=some (.slice a2 ch.length c2)∧w'.cell? (adr a3 i)=some (.int .i64 ci)∧w'.cell? (adr a3 j)=some (.int .i64 cj)) (fun i=>false) (by kernel_rfl) ?_ (fun hHeld=>?_)
    ·exact KEEP.out _ (zb wr.heap.size wr 1)
    refine zt 0 hHeld ?_;refine zt 1 hHeld ?_;refine zt 2 hHeld ?_;refine zt 3 hHeld ?_;refine zt 4 hHeld ?_;refine zt 5 hHeld ?_;refine zt 6 hHeld ?_;refine zt 7 hHeld ?_;refine zt 8 hHeld ?_;refine zt 9 hHeld ?_;refine zt 10 hHeld ?_;refine zt 11 hHeld ?_;refine zt 12 hHeld ?_;refine zt 13 hHeld ?_;refine zt 14 hHeld ?_;refine zt 15 hHeld ?_;refine zt 16 hHeld ?_;refine zt 17 hHeld ?_;refine zt 18 hHeld ?_;refine zo 19 (fun K hK=>?_)
    (go_simp;go_at_call 121;refine (KA2.out _ (za HEX.out (zb wr.heap.size wr 1))).mono ?_;rintro _ v1 ⟨_,rfl,hb,rfl⟩;have y1:=za (zb wr.heap.size wr 1) hb;clear hb)
    refine zk hK (KEEP.out _ y1) (fun hHeld=>?_);clear hK K;refine zt 20 hHeld ?_;refine zt 21 hHeld ?_;refine zr 22 rfl (by kernel_rfl) (fun _ _ _ h=>h) (by rfl) hHeld ?_;try simp only[Act.put,zsa,zsz,zss]
    refine zr 23 rfl (by kernel_rfl) (fun _ _ _ h=>h) (by rfl) hHeld ?_;try simp only[Act.put,zsa,zsz,zss]
    refine zr 24 rfl (by kernel_rfl) (fun _ _ _ h=>h) (by rfl) hHeld ?_;try simp only[Act.put,zsa,zsz,zss]
    refine zr 25 rfl (by kernel_rfl) (fun _ _ _ h=>h) (by rfl) hHeld ?_;try simp only[Act.put,zsa,zsz,zss]
    refine zr 26 rfl (by kernel_rfl) (fun _ _ _ h=>h) (by rfl) hHeld ?_;try simp only[Act.put,zsa,zsz,zss]
    refine zr 27 rfl (by kernel_rfl) (fun _ _ _ h=>h) (by rfl) hHeld ?_;try simp only[Act.put,zsa,zsz,zss]
    refine zt 28 hHeld ?_;refine zt 29 hHeld ?_;refine zz (by kernel_rfl) ?_ _;have ex:=za HEX.out y1;clear hHeld KEEP;go_wp2;go_ret;exact .mk ex (zy HR.out.symm)
   | true=>
   cases f with
   | false=>
    have HR:=zhd (HX.out fun h=>by have:=(h hij hcc).2;cases this);clear hij HX HY hcc;refine zE (fun w':World=>w'.cell? ⟨w.heap.size,0,none⟩=some (.int .i64 s.p.n)∧w'.cell? ⟨w.heap.size,1,none⟩=some (.int .i64 s.p.ins)∧w'.cell? ⟨w.heap.size,2,none⟩=some (.int .i64 s.p.outs)∧w'.cell? ⟨w.heap.size,3,none⟩=some (.slice ca s.p.cs.length cc)∧w'.cell? ⟨w.heap.size,4,none⟩=some (.int .i64 s.p.an)∧w'.cell? ⟨w.heap.size,5,none⟩=some (.slice sa s.p.st.length sc)∧w'.cell? ⟨w.heap.size,6,none⟩=some (.int .i64 s.p.rounds)∧w'.cell? ⟨w.heap.size,7,none⟩=some (.int .i64 s.tn)∧w'.cell? ⟨w.heap.size,8,none⟩=some (.slice ta n tc)∧w'.cell? ⟨w.heap.size,9,none⟩=some (.slice xa s.ex.length xc)∧w'.cell? ⟨w.heap.size+1,0,none⟩=some (.slice a2 ch.length c2)∧w'.cell? (adr a3 i)=some (.int .i64 ci)∧w'.cell? (adr a3 j)=some (.int .i64 cj)) (fun i=>false) (by kernel_rfl) ?_ (fun hHeld=>?_)
    ·exact KEEP.out _ (zb wr.heap.size wr 1)
    refine zt 0 hHeld ?_;refine zt 1 hHeld ?_;refine zt 2 hHeld ?_;refine zt 3 hHeld ?_;refine zt 4 hHeld ?_;refine zt 5 hHeld ?_;refine zt 6 hHeld ?_;refine zt 7 hHeld ?_;refine zt 8 hHeld ?_;refine zt 9 hHeld ?_;refine zt 10 hHeld ?_;refine zt 11 hHeld ?_;refine zt 12 hHeld ?_;refine zt 13 hHeld ?_;refine zt 14 hHeld ?_;refine zt 15 hHeld ?_;refine zt 16 hHeld ?_;refine zt 17 hHeld ?_;refine zt 18 hHeld ?_;refine zo 19 (fun K hK=>?_)
    (go_simp;go_at_call 121;refine (KA2.out _ (za HEX.out (zb wr.heap.size wr 1))).mono ?_;rintro _ v1 ⟨_,rfl,hb,rfl⟩;have y1:=za (zb wr.heap.size wr 1) hb;clear hb)
    refine zk hK (KEEP.out _ y1) (fun hHeld=>?_);clear hK K;refine zt 20 hHeld ?_;refine zt 21 hHeld ?_;refine zt 22 hHeld ?_;refine zt 23 hHeld ?_;refine zt 24 hHeld ?_;refine zt 25 hHeld ?_;refine zo 26 (fun K hK=>?_)
    (go_simp;go_at_call 122;refine (KF2.out _ (za HEX.out y1)).mono ?_;rintro _ v2 ⟨_,rfl,hb,rfl⟩;have y2:=za y1 hb;clear hb)
    refine zk hK (KEEP.out _ y2) (fun hHeld=>?_);clear hK K;refine zt 27 hHeld ?_;refine zt 28 hHeld ?_;refine zt 29 hHeld ?_;refine zz (by kernel_rfl) ?_ _;have ex:=za HEX.out y2;clear hHeld KEEP;go_wp2;go_ret;exact .mk ex (zy HR.out.symm)
   | true=>
    have HF2:=zhd (HY.out fun _ _=>⟨rfl,rfl⟩);clear hij HX HY hcc;refine zE (fun w':World=>w'.cell? ⟨w.heap.size,0,none⟩=some (.int .i64 s.p.n)∧w'.cell? ⟨w.heap.size,1,none⟩=some (.int .i64 s.p.ins)∧w'.cell? ⟨w.heap.size,2,none⟩=some (.int .i64 s.p.outs)∧w'.cell? ⟨w.heap.size,3,none⟩=some (.slice ca s.p.cs.length cc)∧w'.cell? ⟨w.heap.size,4,none⟩=some (.int .i64 s.p.an)∧w'.cell? ⟨w.heap.size,5,none⟩=some (.slice sa s.p.st.length sc)∧w'.cell? ⟨w.heap.size,6,none⟩=some (.int .i64 s.p.rounds)∧w'.cell? ⟨w.heap.size,7,none⟩=some (.int .i64 s.tn)∧w'.cell? ⟨w.heap.size,8,none⟩=some (.slice ta n tc)∧w'.cell? ⟨w.heap.size,9,none⟩=some (.slice xa s.ex.length xc)∧w'.cell? ⟨w.heap.size+1,0,none⟩=some (.slice a2 ch.length c2)∧w'.cell? (adr a3 i)=some (.int .i64 ci)∧w'.cell? (adr a3 j)=some (.int .i64 cj)) (fun i=>false) (by kernel_rfl) ?_ (fun hHeld=>?_)
    ·exact KEEP.out _ (zb wr.heap.size wr 1)
    refine zt 0 hHeld ?_;refine zt 1 hHeld ?_;refine zt 2 hHeld ?_;refine zt 3 hHeld ?_;refine zt 4 hHeld ?_;refine zt 5 hHeld ?_;refine zt 6 hHeld ?_;refine zt 7 hHeld ?_;refine zt 8 hHeld ?_;refine zt 9 hHeld ?_;refine zt 10 hHeld ?_;refine zt 11 hHeld ?_;refine zt 12 hHeld ?_;refine zt 13 hHeld ?_;refine zt 14 hHeld ?_;refine zt 15 hHeld ?_;refine zt 16 hHeld ?_;refine zt 17 hHeld ?_;refine zt 18 hHeld ?_;refine zo 19 (fun K hK=>?_)
    (go_simp;go_at_call 121;refine (KA2.out _ (za HEX.out (zb wr.heap.size wr 1))).mono ?_;rintro _ v1 ⟨_,rfl,hb,rfl⟩;have y1:=za (zb wr.heap.size wr 1) hb;clear hb)
    refine zk hK (KEEP.out _ y1) (fun hHeld=>?_);clear hK K;refine zt 20 hHeld ?_;refine zt 21 hHeld ?_;refine zt 22 hHeld ?_;refine zt 23 hHeld ?_;refine zt 24 hHeld ?_;refine zt 25 hHeld ?_;refine zo 26 (fun K hK=>?_)
    (go_simp;go_at_call 122;refine (KF2.out _ (za HEX.out y1)).mono ?_;rintro _ v2 ⟨_,rfl,hb,rfl⟩;have y2:=za y1 hb;clear hb)
    refine zk hK (KEEP.out _ y2) (fun hHeld=>?_);clear hK K;refine zt 27 hHeld ?_;refine zt 28 hHeld ?_;refine zt 29 hHeld ?_;refine zz (by kernel_rfl) ?_ _;have ex:=za HEX.out y2;have R0':=HR0.out.ext y2;have R1':=HR1.out.ext y2;clear hHeld KEEP;go_wp2;go_roundw
    case rel=>exact ⟨j+1,by omega,by go_num,HF2,ex,R0',R1'⟩
    case measure=>simp[intOf];omega
end Go.Proofs.YtiabbjolepnjkaaGreat
