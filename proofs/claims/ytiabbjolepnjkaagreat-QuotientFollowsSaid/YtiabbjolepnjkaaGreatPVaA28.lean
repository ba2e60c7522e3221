/- Part of the proof that the laws answer true for every input. -/
import Derived.Test.YtiabbjolepnjkaaGreatPVaA26
set_option linter.unusedSimpArgs false
set_option linter.unnecessarySimpa false
set_option linter.unusedVariables false
set_option maxRecDepth 100000
set_option maxHeartbeats 40000000
namespace Go.Proofs.YtiabbjolepnjkaaGreat
open Go.RowKit
attribute [local go_sem ↓] Go.wp_at_zero Go.wp_at_succ
theorem YN {A S2:Nat→Prop} {w:World} {g v x:Nat} {vl:Value} {s:SysF} {ch L:List Int} (h:ScnV A w g s ch) (h2:Ints S2 w vl L) (hl:L.length=s.tab.length) (hv:v<s.tab.length) (hx:x<s.tab.length):
  Calls Tryz.prog 49 #[.pointer (some ⟨g,0,none⟩),vl,v,x] w (Post w fun _ r=>r=.bool (samB s.tab ch (nth L) v x)):=by
 have KA:Hid (∀W,Below w.heap.size w W→Calls Tryz.prog 84 #[.pointer (some ⟨g,0,none⟩),v,x] W (Post W fun _ r=>r=.bool (likB s.tab v x))):=zhd fun W hW=>Z8 (h.ext hW) hv hx;have KF1:Hid (∀W,Below w.heap.size w W→Calls Tryz.prog 85 #[.pointer (some ⟨g,0,none⟩),vl,v,x] W (Post W fun _ r=>r=.bool (folB s.tab (nth L) v x))):=zhd fun W hW=>QA (h.ext hW) (h2.ext hW) hl hv hx;have KF2:Hid (∀W,Below w.heap.size w W→Calls Tryz.prog 85 #[.pointer (some ⟨g,0,none⟩),vl,x,v] W (Post W fun _ r=>r=.bool (folB s.tab (nth L) x v))):=zhd fun W hW=>QA (h.ext hW) (h2.ext hW) hl hx hv;have HR:Hid (samB s.tab ch (nth L) v x=(likB s.tab v x&&(decide (nth ch v=nth ch x)&&(folB s.tab (nth L) v x&&folB s.tab (nth L) x v)))):=zhd rfl;obtain ⟨r,hr⟩:=zn (samB s.tab ch (nth L) v x);rw[←hr]at HR ⊢;obtain ⟨al,ha⟩:∃b,b=likB s.tab v x:=⟨_,rfl⟩;obtain ⟨f1,hf1⟩:∃b,b=folB s.tab (nth L) v x:=⟨_,rfl⟩;obtain ⟨f2,hf2⟩:∃b,b=folB s.tab (nth L) x v:=⟨_,rfl⟩;rw[←ha]at KA HR;rw[←hf1]at KF1 HR;rw[←hf2]at KF2 HR;obtain ⟨al',cl',rfl,_⟩:=h2.form;obtain ⟨ca,cc,sa,sc,ta,tc,xa,xc,a2,c2,la,lc,mb,R,_,_,_,hrr,_⟩:=h.mem;have hlen:=h.dat.len;have vq:=hrr.idx (k:=v) (by omega);have xq:=hrr.idx (k:=x) (by omega);have vc:=hrr.cellN (k:=v) (by omega);have xc':=hrr.cellN (k:=x) (by omega);obtain ⟨cv,hcv⟩:∃c,c=nth ch v:=⟨_,rfl⟩;obtain ⟨cx,hcx⟩:∃c,c=nth ch x:=⟨_,rfl⟩;rw[←hcv,←hcx]at HR;rw[←hcv]at vc;rw[←hcx]at xc';have KEEP:Hid (∀w',Below w.heap.size w w'→(fun w':World=>w'.cell? ⟨g,10,none⟩=some (.slice a2 ch.length c2)∧w'.cell? (adr a2 v)=some (.int .i64 cv)∧w'.cell? (adr a2 x)=some (.int .i64 cx)) w'):=zhd fun w' hw=>⟨(R.ext hw).zc 10 rfl,zi vc hw,zi xc' hw⟩;clear h h2 hl hv hx hr ha hf1 hf2 hcv hcx hrr R hlen vc xc';go_enter Tryz.func49,Tryz.ntmps49;go_upto_region 1 with fail;cases al with
 | false=>
  have RE:Hid (r=false):=zhd (HR.out.trans rfl);clear HR;refine zE (fun w':World=>w'.cell? ⟨g,10,none⟩=some (.slice a2 ch.length c2)∧w'.cell? (adr a2 v)=some (.int .i64 cv)∧w'.cell? (adr a2 x)=some (.int .i64 cx)) (fun i=>false) (by kernel_rfl) ?_ (fun hHeld=>?_)
  ·exact KEEP.out _ (zb w.heap.size w 1)
  refine zt 0 hHeld ?_;refine zt 1 hHeld ?_;refine zt 2 hHeld ?_;refine zo 3 (fun K hK=>?_)
  (go_simp;go_at_call 84;refine (KA.out _ (zb w.heap.size w 1)).mono ?_;rintro _ v1 ⟨_,rfl,hb,rfl⟩;have y1:=za (zb w.heap.size w 1) hb;clear hb)
  refine zk hK (KEEP.out _ y1) (fun hHeld=>?_);clear hK K;refine zt 4 hHeld ?_;refine zr 5 rfl (by kernel_rfl) (fun _ _ _ h=>h) (by rfl) hHeld ?_;try simp only[Act.put,zsa,zsz,zss]
  refine zr 6 rfl (by kernel_rfl) (fun _ _ _ h=>h) (by rfl) hHeld ?_;try simp only[Act.put,zsa,zsz,zss]
  refine zr 7 rfl (by kernel_rfl) (fun _ _ _ h=>h) (by rfl) hHeld ?_;try simp only[Act.put,zsa,zsz,zss]
  refine zr 8 rfl (by kernel_rfl) (fun _ _ _ h=>h) (by rfl) hHeld ?_;try simp only[Act.put,zsa,zsz,zss]
  refine zr 9 rfl (by kernel_rfl) (fun _ _ _ h=>h) (by rfl) hHeld ?_;try simp only[Act.put,zsa,zsz,zss]
  refine zr 10 rfl (by kernel_rfl) (fun _ _ _ h=>h) (by rfl) hHeld ?_;try simp only[Act.put,zsa,zsz,zss]
  refine zr 11 rfl (by kernel_rfl) (fun _ _ _ h=>h) (by rfl) hHeld ?_;try simp only[Act.put,zsa,zsz,zss]
  refine zr 12 rfl (by kernel_rfl) (fun _ _ _ h=>h) (by rfl) hHeld ?_;try simp only[Act.put,zsa,zsz,zss]
  refine zr 13 rfl (by kernel_rfl) (fun _ _ _ h=>h) (by rfl) hHeld ?_;try simp only[Act.put,zsa,zsz,zss]
  refine zr 14 rfl (by kernel_rfl) (fun _ _ _ h=>h) (by rfl) hHeld ?_;try simp only[Act.put,zsa,zsz,zss]
  refine zr 15 rfl (by kernel_rfl) (fun _ _ _ h=>h) (by rfl) hHeld ?_;try simp only[Act.put,zsa,zsz,zss]
  refine zr 16 rfl (by kernel_rfl) (fun _ _ _ h=>h) (by rfl) hHeld ?_;try simp only[Act.put,zsa,zsz,zss]
  refine zr 17 rfl (by kernel_rfl) (fun _ _ _ h=>h) (by rfl) hHeld ?_;try simp only[Act.put,zsa,zsz,zss]
  refine zr 18 rfl (by kernel_rfl) (fun _ _ _ h=>h) (by rfl) hHeld ?_;try simp only[Act.put,zsa,zsz,zss]
  refine zr 19 rfl (by kernel_rfl) (fun _ _ _ h=>h) (by rfl) hHeld ?_;try simp only[Act.put,zsa,zsz,zss]
  refine zr 20 rfl (by kernel_rfl) (fun _ _ _ h=>h) (by rfl) hHeld ?_;try simp only[Act.put,zsa,zsz,zss]
  refine zr 21 rfl (by kernel_rfl) (fun _ _ _ h=>h) (by rfl) hHeld ?_;try simp only[Act.put,zsa,zsz,zss]
  refine zt 22 hHeld ?_;refine zt 23 hHeld ?_;refine zr 24 rfl (by kernel_rfl) (fun _ _ _ h=>h) (by rfl) hHeld ?_;try simp only[Act.put,zsa,zsz,zss]
  refine zr 25 rfl (by kernel_rfl) (fun _ _ _ h=>h) (by rfl) hHeld ?_;try simp only[Act.put,zsa,zsz,zss]
  refine zr 26 rfl (by kernel_rfl) (fun _ _ _ h=>h) (by rfl) hHeld ?_;try simp only[Act.put,zsa,zsz,zss]
  refine zr 27 rfl (by kernel_rfl) (fun _ _ _ h=>h) (by rfl) hHeld ?_;try simp only[Act.put,zsa,zsz,zss]
  refine zr 28 rfl (by kernel_rfl) (fun _ _ _ h=>h) (by rfl) hHeld ?_;try simp only[Act.put,zsa,zsz,zss]
  refine zt 29 hHeld ?_;refine zt 30 hHeld ?_;refine zr 31 rfl (by kernel_rfl) (fun _ _ _ h=>h) (by rfl) hHeld ?_;try simp only[Act.put,zsa,zsz,zss]
  refine zr 32 rfl (by kernel_rfl) (fun _ _ _ h=>h) (by rfl) hHeld ?_;try simp only[Act.put,zsa,zsz,zss]
  refine zr 33 rfl (by kernel_rfl) (fun _ _ _ h=>h) (by rfl) hHeld ?_;try simp only[Act.put,zsa,zsz,zss]
  refine zr 34 rfl (by kernel_rfl) (fun _ _ _ h=>h) (by rfl) hHeld ?_;try simp only[Act.put,zsa,zsz,zss]
  refine zr 35 rfl (by kernel_rfl) (fun _ _ _ h=>h) (by rfl) hHeld ?_;try simp only[Act.put,zsa,zsz,zss]
  refine zt 36 hHeld ?_;refine zt 37 hHeld ?_;refine zz (by kernel_rfl) ?_ _;clear hHeld KEEP;go_wp2;go_ret;exact .mk y1 (zy RE.out.symm)
 | true=>
 by_cases hc:cv=cx
 case neg=>
  have d1:(cv==cx)=false:=by simp[hc]
  have RE:Hid (r=false):=zhd (HR.out.trans (by rw[decide_eq_false hc,Bool.false_and,Bool.and_false]));clear HR hc;refine zE (fun w':World=>w'.cell? ⟨g,10,none⟩=some (.slice a2 ch.length c2)∧w'.cell? (adr a2 v)=some (.int .i64 cv)∧w'.cell? (adr a2 x)=some (.int .i64 cx)) (fun i=>false) (by kernel_rfl) ?_ (fun hHeld=>?_)
  ·exact KEEP.out _ (zb w.heap.size w 1)
  refine zt 0 hHeld ?_;refine zt 1 hHeld ?_;refine zt 2 hHeld ?_;refine zo 3 (fun K hK=>?_)
  (go_simp;go_at_call 84;refine (KA.out _ (zb w.heap.size w 1)).mono ?_;rintro _ v1 ⟨_,rfl,hb,rfl⟩;have y1:=za (zb w.heap.size w 1) hb;clear hb)
  refine zk hK (KEEP.out _ y1) (fun hHeld=>?_);clear hK K;refine zt 4 hHeld ?_;refine zt 5 hHeld ?_;refine zt 6 hHeld ?_;refine zt 7 hHeld ?_;refine zt 8 hHeld ?_;refine zt 9 hHeld ?_;refine zt 10 hHeld ?_;refine zt 11 hHeld ?_;refine zt 12 hHeld ?_;refine zt 13 hHeld ?_;refine zt 14 hHeld ?_;refine zt 15 hHeld ?_;refine zt 16 hHeld ?_;refine zt 17 hHeld ?_;refine zt 18 hHeld ?_;refine zt 19 hHeld ?_;refine zt 20 hHeld ?_;refine zt 21 hHeld ?_;refine zt 22 hHeld ?_;refine zt 23 hHeld ?_;refine zr 24 rfl (by kernel_rfl) (fun _ _ _ h=>h) (by rfl) hHeld ?_;try simp only[Act.put,zsa,zsz,zss]
  refine zr 25 rfl (by kernel_rfl) (fun _ _ _ h=>h) (by rfl) hHeld ?_;try simp only[Act.put,zsa,zsz,zss]
  refine zr 26 rfl (by kernel_rfl) (fun _ _ _ h=>h) (by rfl) hHeld ?_;try simp only[Act.put,zsa,zsz,zss]
  refine zr 27 rfl (by kernel_rfl) (fun _ _ _ h=>h) (by rfl) hHeld ?_;try simp only[Act.put,zsa,zsz,zss]
  refine zr 28 rfl (by kernel_rfl) (fun _ _ _ h=>h) (by rfl) hHeld ?_;try simp only[Act.put,zsa,zsz,zss]
  refine zt 29 hHeld ?_;refine zt 30 hHeld ?_;refine zr 31 rfl (by kernel_rfl) (fun _ _ _ h=>h) (by rfl) hHeld ?_;try simp only[Act.put,zsa,zsz,zss]
  refine zr 32 rfl (by kernel_rfl) (fun _ _ _ h=>h) (by rfl) hHeld ?_;try simp only[Act.put,zsa,zsz,zss]
  refine zr 33 rfl (by kernel_rfl) (fun _ _ _ h=>h) (by rfl) hHeld ?_;try simp only[Act.put,zsa,zsz,zss]
  refine zr 34 rfl (by kernel_rfl) (fun _ _ _ h=>h) (by rfl) hHeld ?_;try simp only[Act.put,zsa,zsz,zss]
  refine zr 35 rfl (by kernel_rfl) (fun _ _ _ h=>h) (by rfl) hHeld ?_;try simp only[Act.put,zsa,zsz,zss]
  refine zt 36 hHeld ?_;refine zt 37 hHeld ?_;refine zz (by kernel_rfl) ?_ _;clear hHeld KEEP;go_wp2;go_ret;exact .mk y1 (zy RE.out.symm)
 have d1:(cv==cx)=true:=by simp[hc]
 have HR2:Hid (r=(f1&&f2)):=zhd (HR.out.trans (by rw[decide_eq_true hc,Bool.true_and,Bool.true_and]));clear HR hc;cases f1 with
 | false=>
  have RE:Hid (r=false):=zhd (HR2.out.trans rfl);clear HR2;refine zE (fun w':World=>w'.cell? ⟨g,10,none⟩=some (.slice a2 ch.length c2)∧w'.cell? (adr a2 v)=some (.int .i64 cv)∧w'.cell? (adr a2 x)=some (.int .i64 cx)) (fun i=>false) (by kernel_rfl) ?_ (fun hHeld=>?_)
  ·exact KEEP.out _ (zb w.heap.size w 1)
  refine zt 0 hHeld ?_;refine zt 1 hHeld ?_;refine zt 2 hHeld ?_;refine zo 3 (fun K hK=>?_)
  (go_simp;go_at_call 84;refine (KA.out _ (zb w.heap.size w 1)).mono ?_;rintro _ v1 ⟨_,rfl,hb,rfl⟩;have y1:=za (zb w.heap.size w 1) hb;clear hb)
  refine zk hK (KEEP.out _ y1) (fun hHeld=>?_);clear hK K;refine zt 4 hHeld ?_;refine zt 5 hHeld ?_;refine zt 6 hHeld ?_;refine zt 7 hHeld ?_;refine zt 8 hHeld ?_;refine zt 9 hHeld ?_;refine zt 10 hHeld ?_;refine zt 11 hHeld ?_;refine zt 12 hHeld ?_;refine zt 13 hHeld ?_;refine zt 14 hHeld ?_;refine zt 15 hHeld ?_;refine zt 16 hHeld ?_;refine zt 17 hHeld ?_;refine zt 18 hHeld ?_;refine zt 19 hHeld ?_;refine zt 20 hHeld ?_;refine zt 21 hHeld ?_;refine zt 22 hHeld ?_;refine zt 23 hHeld ?_;refine zt 24 hHeld ?_;refine zt 25 hHeld ?_;refine zt 26 hHeld ?_;refine zt 27 hHeld ?_;refine zo 28 (fun K hK=>?_)
  (go_simp;go_at_call 85;refine (KF1.out _ y1).mono ?_;rintro _ v2 ⟨_,rfl,hb,rfl⟩;have y2:=za y1 hb;clear hb)
  refine zk hK (KEEP.out _ y2) (fun hHeld=>?_);clear hK K;refine zt 29 hHeld ?_;refine zt 30 hHeld ?_;refine zr 31 rfl (by kernel_rfl) (fun _ _ _ h=>h) (by rfl) hHeld ?_;try simp only[Act.put,zsa,zsz,zss]
  refine zr 32 rfl (by kernel_rfl) (fun _ _ _ h=>h) (by rfl) hHeld ?_;try simp only[Act.put,zsa,zsz,zss]
  refine zr 33 rfl (by kernel_rfl) (fun _ _ _ h=>h) (by rfl) hHeld ?_;try simp only[Act.put,zsa,zsz,zss]
  refine zr 34 rfl (by kernel_rfl) (fun _ _ _ h=>h) (by rfl) hHeld ?_;try simp only[Act.put,zsa,zsz,zss]
  refine zr 35 rfl (by kernel_rfl) (fun _ _ _ h=>h) (by rfl) hHeld ?_;try simp only[Act.put,zsa,zsz,zss]
  refine zt 36 hHeld ?_;refine zt 37 hHeld ?_;refine zz (by kernel_rfl) ?_ _;clear hHeld KEEP;go_wp2;go_ret;exact .mk y2 (zy RE.out.symm)
 | true=>
 have RE:Hid (r=f2):=zhd (HR2.out.trans (Bool.true_and _));clear HR2;cases f2 with
 | false=>
  refine zE (fun w':World=>w'.cell? ⟨g,10,none⟩=some (.slice a2 ch.length c2)∧w'.cell? (adr a2 v)=some (.int .i64 cv)∧w'.cell? (adr a2 x)=some (.int .i64 cx)) (fun i=>false) (by kernel_rfl) ?_ (fun hHeld=>?_)
  ·exact KEEP.out _ (zb w.heap.size w 1)
  refine zt 0 hHeld ?_;refine zt 1 hHeld ?_;refine zt 2 hHeld ?_;refine zo 3 (fun K hK=>?_)
  (go_simp;go_at_call 84;refine (KA.out _ (zb w.heap.size w 1)).mono ?_;rintro _ v1 ⟨_,rfl,hb,rfl⟩;have y1:=za (zb w.heap.size w 1) hb;clear hb)
  refine zk hK (KEEP.out _ y1) (fun hHeld=>?_);clear hK K;refine zt 4 hHeld ?_;refine zt 5 hHeld ?_;refine zt 6 hHeld ?_;refine zt 7 hHeld ?_;refine zt 8 hHeld ?_;refine zt 9 hHeld ?_;refine zt 10 hHeld ?_;refine zt 11 hHeld ?_;refine zt 12 hHeld ?_;refine zt 13 hHeld ?_;refine zt 14 hHeld ?_;refine zt 15 hHeld ?_;refine zt 16 hHeld ?_;refine zt 17 hHeld ?_;refine zt 18 hHeld ?_;refine zt 19 hHeld ?_;refine zt 20 hHeld ?_;refine zt 21 hHeld ?_;refine zt 22 hHeld ?_;refine zt 23 hHeld ?_;refine zt 24 hHeld ?_;refine zt 25 hHeld ?_;refine zt 26 hHeld ?_;refine zt 27 hHeld ?_;refine zo 28 (fun K hK=>?_)
  (go_simp;go_at_call 85;refine (KF1.out _ y1).mono ?_;rintro _ v2 ⟨_,rfl,hb,rfl⟩;have y2:=za y1 hb;clear hb)
  refine zk hK (KEEP.out _ y2) (fun hHeld=>?_);clear hK K;refine zt 29 hHeld ?_;refine zt 30 hHeld ?_;refine zt 31 hHeld ?_;refine zt 32 hHeld ?_;refine zt 33 hHeld ?_;refine zt 34 hHeld ?_;refine zo 35 (fun K hK=>?_)
  (go_simp;go_at_call 85;refine (KF2.out _ y2).mono ?_;rintro _ v3 ⟨_,rfl,hb,rfl⟩;have y3:=za y2 hb;clear hb)
  refine zk hK (KEEP.out _ y3) (fun hHeld=>?_);clear hK K;refine zt 36 hHeld ?_;refine zt 37 hHeld ?_;refine zz (by kernel_rfl) ?_ _;clear hHeld KEEP;go_wp2;go_ret;exact .mk y3 (zy RE.out.symm)
 | true=>
  refine zE (fun w':World=>w'.cell? ⟨g,10,none⟩=some (.slice a2 ch.length c2)∧w'.cell? (adr a2 v)=some (.int .i64 cv)∧w'.cell? (adr a2 x)=some (.int .i64 cx)) (fun i=>false) (by kernel_rfl) ?_ (fun hHeld=>?_)
  ·exact KEEP.out _ (zb w.heap.size w 1)
  refine zt 0 hHeld ?_;refine zt 1 hHeld ?_;refine zt 2 hHeld ?_;refine zo 3 (fun K hK=>?_)
  (go_simp;go_at_call 84;refine (KA.out _ (zb w.heap.size w 1)).mono ?_;rintro _ v1 ⟨_,rfl,hb,rfl⟩;have y1:=za (zb w.heap.size w 1) hb;clear hb)
  refine zk hK (KEEP.out _ y1) (fun hHeld=>?_);clear hK K;refine zt 4 hHeld ?_;refine zt 5 hHeld ?_;refine zt 6 hHeld ?_;refine zt 7 hHeld ?_;refine zt 8 hHeld ?_;refine zt 9 hHeld ?_;refine zt 10 hHeld ?_;refine zt 11 hHeld ?_;refine zt 12 hHeld ?_;refine zt 13 hHeld ?_;refine zt 14 hHeld ?_;refine zt 15 hHeld ?_;refine zt 16 hHeld ?_;refine zt 17 hHeld ?_;refine zt 18 hHeld ?_;refine zt 19 hHeld ?_;refine zt 20 hHeld ?_;refine zt 21 hHeld ?_;refine zt 22 hHeld ?_;refine zt 23 hHeld ?_;refine zt 24 hHeld ?_;refine zt 25 hHeld ?_;refine zt 26 hHeld ?_;refine zt 27 hHeld ?_;refine zo 28 (fun K hK=>?_)
  (go_simp;go_at_call 85;refine (KF1.out _ y1).mono ?_;rintro _ v2 ⟨_,rfl,hb,rfl⟩;have y2:=za y1 hb;clear hb)
  refine zk hK (KEEP.out _ y2) (fun hHeld=>?_);clear hK K;refine zt 29 hHeld ?_;refine zt 30 hHeld ?_;refine zt 31 hHeld ?_;refine zt 32 hHeld ?_;refine zt 33 hHeld ?_;refine zt 34 hHeld ?_;refine zo 35 (fun K hK=>?_)
  (go_simp;go_at_call 85;refine (KF2.out _ y2).mono ?_;rintro _ v3 ⟨_,rfl,hb,rfl⟩;have y3:=za y2 hb;clear hb)
  refine zk hK (KEEP.out _ y3) (fun hHeld=>?_);clear hK K;refine zt 36 hHeld ?_;refine zt 37 hHeld ?_;refine zz (by kernel_rfl) ?_ _;clear hHeld KEEP;go_wp2;go_ret;exact .mk y3 (zy RE.out.symm)
theorem foldCast (l:List Nat) (y:Nat):((l++[y]).map fun z:Nat=>(z:Int)).map (Value.int .i64)=(l.map fun z:Nat=>(z:Int)).map (Value.int .i64)++[.int .i64 y]:=by simp
theorem xR {A:Nat→Prop} {w:World} {g:Nat} {s:SysF} {ch:List Int} (h:ScnV A w g s ch):
  Calls Tryz.prog 53 #[.pointer (some ⟨g,0,none⟩)] w (Post w fun w' r=>Ints (fun b=>w.heap.size≤b) w' r (keys (quoE s.tab ch s.K) s.tab.length)):=by
 have KS:Hid (∀S3 vl L u x,L.length=s.tab.length→u<s.tab.length→x<s.tab.length→∀W,Below w.heap.size w W→Ints S3 W vl L→Calls Tryz.prog 49 #[.pointer (some ⟨g,0,none⟩),vl,u,x] W (Post W fun _ r=>r=.bool (samB s.tab ch (nth L) u x))):=zhd fun S3 vl L u x hL hu hx W hW hi=>YN (h.ext hW) hi hL hu hx;obtain ⟨ca,cc,sa,sc,ta,tc,xa,xc,a2,c2,la,lc,mb,R,_,_,ht,_,_⟩:=h.mem;obtain ⟨hg,hlen,hfew⟩:=h.dat
 obtain ⟨_,_,hee,tad,_⟩:=ht.form2;cases hee;obtain ⟨i0,hi,hz⟩:=zI zP;have HQ:=zhd (zH Tryz.underlying30 hi hz tad);have HTC:Hid (∀u,u<s.tab.length→∃y:List Int,y.length=8∧nth y 1=(rndT s.tab u:Int)∧w.cell? (adr ta (u * 8))=some (.int .i64 (nth y 0))∧∀i,i<8→w.cell? ⟨(adr ta (u * 8)).block,(adr ta (u * 8)).off+i,none⟩=some (.int .i64 (nth y i))):=zhd fun u hu=>by
  have:=ht.nums (k:=u) hu (by decide);exact ⟨nthL s.tab u,qI hg.tab hu,(ym hg.tab hu).1,this.1,this.2⟩
 have HTB:=zhd hg.tab;have HND:=zhd hg.nodup;have HRN:Hid (∀u,u<s.tab.length→rndT s.tab u≤s.K):=zhd fun u hu=>(ym HTB.out hu).2;have hK6:=hg.K6;have hrd:=hg.rnd;have HFIN:Hid (∀L,LabI s.tab ch s.K (s.K+1) 0 L→L=keys (quoE s.tab ch s.K) s.tab.length∧(∀x∈L,WF x)∧L.length=s.tab.length):=zhd fun L hL=>by
  have e:=hL.done;refine ⟨e,?_,hL.len⟩;rw[e];exact zgj ch s.K (by omega) HND.out HTB.out
 have HR6:Hid (∀W,Below w.heap.size w W→W.cell? ⟨g,6,none⟩=some (.int .i64 (s.K:Int))∧W.cell? ⟨g,8,none⟩=some (.slice ta s.tab.length tc)∧g<W.heap.size):=zhd fun W hW=>⟨by have:=(R.ext hW).zc 6 rfl;rw[hrd]at this;exact this,(R.ext hW).zc 8 rfl,(R.ext hW).lt⟩;obtain ⟨qL,hqL⟩:∃l,l=keys (quoE s.tab ch s.K) s.tab.length:=⟨_,rfl⟩;rw[←hqL]at HFIN ⊢;obtain ⟨T,hT⟩:=zn s.tab;obtain ⟨K,hK⟩:=zn s.K;rw[←hT]at KS HQ HTC HTB HND HRN HFIN hfew HR6;rw[←hK]at HRN hK6 HFIN HTB HR6;have hmk:=run_make_row' 36 3 (.int .i64 0) 8 Tryz.underlying36 info3 rfl .i64 .i64 T.length (by omega) (by omega);have ex:=ze w (.cells (madeCells #[.int .i64 0] T.length) 3);have RL:=Row.made w (.int .i64 0) T.length 3;rw[show List.replicate T.length (Value.int .i64 0)=(List.replicate T.length (0:Int)).map (Value.int .i64) by simp]at RL;have HZ0:=zhd (LabI.zero T ch K);obtain ⟨_,g8,lg⟩:=HR6.out w (.refl _ _);obtain ⟨g6',g8',lg'⟩:=HR6.out _ ex;clear h ht R tad hi hz hg hlen hqL hT hK hrd;obtain ⟨B2,hB2⟩:=zn w.heap.size;rw[←hB2]at RL;have HB2:=zhd hB2;have HBW:Hid (w.heap.size≤B2):=zhd (by omega);clear hB2;go_enter Tryz.func53,Tryz.ntmps53;go_wp2;rw[←HB2.out];clear hmk g8 lg g6' g8' lg';have HDK:(K+1=0∧Value.int .i64 (K:Int)=.int .i64 (-1))∨∃k,K+1=k+1∧Value.int .i64 (K:Int)=.int .i64 (k:Int):=.inr ⟨K,rfl,rfl⟩;go_loopw [4,5,6,7,8,10] (fun kv _ _ _ _ _ wr=>∃(j:Nat) (L:List Int),j≤K+1∧((j=0∧kv=.int .i64 (-1))∨∃k:Nat,j=k+1∧kv=.int .i64 k)∧Hid (LabI T ch K (K+1 - j) 0 L)∧Below w.heap.size w wr∧Row wr B2 3 ((L).map (Value.int .i64))) (fun kv _ _ _ _ _ _=>(intOf kv+1).toNat)
 case atStart=>exact ⟨K+1,_,Nat.le_refl _,HDK,zhd (by rw[Nat.sub_self];exact HZ0.out),ex,RL⟩
 case round=>
  clear ex RL HZ0 HDK;obtain ⟨j,L,hj,hjk,HL,ex,RL⟩:=hrel;rcases hjk with ⟨rfl,rfl⟩ | ⟨k,rfl,rfl⟩
  ·have HFI:=zhd (HFIN.out L HL.out);have HI:Hid (Ints (fun b=>w.heap.size≤b) wr (.slice (some ⟨B2,0,none⟩) T.length T.length) qL):=zhd (by
    have:=RL.ints (by rw[HFI.out.2.2];unfold maxLen;omega) HFI.out.2.1;rw[HFI.out.2.2,HFI.out.1]at this;exact this.mono fun b hb=>by have:=HBW.out;omega)
   have HEX:=zhd ex;clear ex RL HL hj;go_wp2;go_ret;exact .mk HEX.out HI.out
  obtain ⟨m,hm'⟩:∃m,m=K - k:=⟨_,rfl⟩;have hmk:k+m=K:=by omega
  rw[show K+1 - (k+1)=m by omega]at HL;have HM1:Hid (K+1 - k=m+1):=zhd (by omega);have HDN:=zhd (zg9 k);obtain ⟨_,g8,lg⟩:=HR6.out wr ex;clear hm';go_wp2;clear g8 lg;go_loopw [5,6,7,8,10,36] (fun fv _ _ _ _ iv wr=>∃(v:Nat) (L:List Int) (fa:Option Addr) (fn fc:Nat),v≤T.length∧iv=.int .i64 v∧fv=.slice fa fn fc∧Hid (LabI T ch K m v L)∧Below w.heap.size w wr∧Row wr B2 3 ((L).map (Value.int .i64))∧Hid (wr.ownsRow (B2+1) 3 1 (.slice fa fn fc) fn (((firL T ch K m v).map fun z:Nat=>(z:Int)).map (Value.int .i64)))∧Hid (fn=(firL T ch K m v).length)) (fun _ _ _ _ _ iv _=>T.length - (intOf iv).toNat)
  case atStart=>exact ⟨0,L,none,0,0,Nat.zero_le _,rfl,rfl,HL,ex,RL,zhd (World.ownsRow_nil _ _ _ _),zhd rfl⟩
  case round=>
   clear ex RL HL L;obtain ⟨v,L,fa,fn,fc,hv,rfl,rfl,HL,ex,RL,HF,HFL⟩:=hrel;by_cases hlt:v<T.length
   case neg=>
    obtain rfl:v=T.length:=by omega
    have HL2:=zhd HL.out.start;go_wp2;go_roundw
    case rel=>exact ⟨k,L,by omega,HDN.out,by rw[HM1.out];exact HL2,ex,RL⟩
    case measure=>simp[intOf]
   have vq:=HQ.out v hlt;obtain ⟨y,hy8,hy1,hy0,hyr⟩:=HTC.out v hlt;have u0:=zi hy0 ex;have u1:=zi (hyr 1 (by decide)) ex;have u2:=zi (hyr 2 (by decide)) ex;have u3:=zi (hyr 3 (by decide)) ex;have u4:=zi (hyr 4 (by decide)) ex;have u5:=zi (hyr 5 (by decide)) ex;have u6:=zi (hyr 6 (by decide)) ex;have u7:=zi (hyr 7 (by decide)) ex;have bv:=World.block_lt_of_cell? _ _ u0;have HY1:=zhd hy1;have HRV:=zhd (HRN.out v hlt);have HSK:=zhd (fun h=>HL.out.skip (j:=v) h);have HFS:=zhd (fun h=>zfG (T:=T) (ch:=ch) (K:=K) (m:=m) (j:=v) h);obtain ⟨rv,hrv⟩:∃r,r=rndT T v:=⟨_,rfl⟩;rw[←hrv]at HRV HSK HFS HY1;have HRE:=zhd hrv;have eV:=ze wr (.cells #[nth y 0,nth y 1,nth y 2,nth y 3,nth y 4,nth y 5,nth y 6,nth y 7] 65);have RV:=zh wr [nth y 0,nth y 1,nth y 2,nth y 3,nth y 4,nth y 5,nth y 6,nth y 7] 65;have exv:=za ex eV;have RLv:=RL.ext eV;have HFv:=zhd (yC HF.out eV);clear hrv hy8 hy1 hy0 hyr RL HF;go_upto_region 9 with fail;obtain ⟨wv,hwv⟩:=zn (wr.alloc (.cells #[nth y 0,nth y 1,nth y 2,nth y 3,nth y 4,nth y 5,nth y 6,nth y 7] 65));obtain ⟨VB,hVB⟩:=zn wr.heap.size;rw[←hwv]at RV exv RLv HFv ⊢;rw[←hVB]at RV ⊢;have v1:=RV.zc 1 rfl;rw[HY1.out]at v1;have lv:=RV.lt;clear hwv hVB u0 u1 u2 u3 u4 u5 u6 u7 bv vq ex eV RV wr;by_cases hrk:rv=k
   case neg=>
    have d1:((rv:Int) !=(k:Int))=true:=by rw[bne_iff_ne];omega
    have HL2:=zhd (HSK.out (by omega));rw[←HFS.out (by omega)]at HFv HFL;clear hrk HSK HFS;go_wp2;go_roundw
    case rel=>exact ⟨v+1,L,fa,fn,fc,by omega,by go_num,rfl,HL2,exv,RLv,HFv,HFL⟩
    case measure=>simp[intOf];omega
   have d1:((rv:Int) !=(k:Int))=false:=by rw[hrk];simp
   have HVK:Hid (rndT T v+m=K):=zhd (by rw[←HRE.out];omega);have hLl:=HL.out.len;have hfl:fn≤v:=by rw[HFL.out];exact zgb _ _ _ _ _
   have cv:=rowInt RLv (k:=v) (by omega);have fv:=RLv.free v;have lb:=RLv.lt;have RL2:=rowSet RLv v v;have ex2:=exv.setCell (p:=⟨B2,v,none⟩) (by have:=HBW.out;simpa using this) (.int .i64 v);have HF2:=zhd (zM (S:=fun b=>B2+1≤b) HFv.out (.of_grown (zm wv B2 v (.int .i64 v)) fun b hb e=>by injection e with e;omega) fun q hq=>(HFv.out.lt q hq).1);have qv:=YQ B2 T.length T.length hlt;have HLN:=zhd hLl;clear hrk hLl exv RLv HFv HSK HFS;go_wp2;obtain ⟨wz,hwz⟩:=zn (wv.setCell ⟨B2,v,none⟩ (.int .i64 v));rw[←hwz]at RL2 ex2 HF2 ⊢;clear hwz cv fv lb v1 lv d1 wv;have HMAXv:Hid (∀y∈L,WF y):=zhd fun y hy=>by
    obtain ⟨i,hi,rfl⟩:=List.getElem_of_mem hy;have h3:=HL.out.at' i (by rw[←HL.out.len];exact hi);rw[yv hi]at h3;rw[h3];exact zgV HTB.out HND.out (by omega) (by rw[←HL.out.len];exact hi)
   have HLV:Hid ((L.set v (v:Int)).length=T.length∧(∀y∈L.set v (v:Int),WF y)∧LabA T ch K m (L.set v (v:Int))):=zhd ⟨by rw[List.length_set];exact HL.out.len,fun y hy=>by
    rcases List.mem_or_eq_of_mem_set hy with h1 | h1
    ·exact HMAXv.out y h1
    ·rw[h1];exact WF.small (by omega),HL.out.a.set hlt HVK.out _⟩
   have HSS:Hid (∀z:Int,(L.set v (v:Int)).set v z=L.set v z):=zhd fun z=>List.set_set ..;have HFA:=zhd (fun i=>(zbp (T:=T) (ch:=ch) (K:=K) (m:=m) (j:=v) (w:=i)).1);have HHIT:=zhd (fun w' (h1:w'∈firL T ch K m v) h2=>zf5 HTB.out HND.out hlt h1 h2);have HNON:=zhd (fun h=>zfJ (ch:=ch) HTB.out HND.out hlt HVK.out h);have HSR:Hid (∀z,z<T.length→samB T ch (nth (L.set v (v:Int))) v z=samB T ch (quoF T ch K m) v z):=zhd fun z hz=>zgv HTB.out HLV.out.2.2 HVK.out hlt hz;have HSTP:Hid (LabI T ch K m (v+1) (L.set v ((lstV T ch (quoF T ch K m) v:Nat):Int))):=zhd (HL.out.step HVK.out hlt);have HOLD:=zhd (fun h=>zgh (T:=T) (ch:=ch) (K:=K) (m:=m) (j:=v) h);have HNEW:=zhd (fun h=>zgA (T:=T) (ch:=ch) (K:=K) (m:=m) (j:=v) HVK.out h);obtain ⟨Fl,hFl⟩:∃l,l=firL T ch K m v:=⟨_,rfl⟩;rw[←hFl]at HF2 HFL HFA HHIT HNON HOLD HNEW;obtain ⟨lst,hlst⟩:∃z,z=lstV T ch (quoF T ch K m) v:=⟨_,rfl⟩;rw[←hlst]at HHIT HNON HSTP HOLD HNEW;obtain ⟨Lv,hLv⟩:∃l,l=L.set v (v:Int):=⟨_,rfl⟩;rw[←hLv]at RL2 HLV HSS HSR;have HLVE:=zhd hLv;have HIXF:Hid (∀(S:Nat→Prop) W (h:W.ownsRow (B2+1) 3 1 (.slice fa fn fc) fn ((Fl.map fun z:Nat=>(z:Int)).map (Value.int .i64))),Ints (fun b=>B2+1≤b) W (.slice fa fn fc) (Fl.map fun z:Nat=>(z:Int))):=zhd fun S W h=>Ints.of_own h fun y hy=>by
    obtain ⟨z,hz,rfl⟩:=List.mem_map.1 hy;have:=(HFA.out z hz).1;exact WF.small (by omega)
   clear hFl hlst hLv HL HMAXv;go_loopw [8,10,51] (fun bv _ iv wi=>∃i:Nat,i≤fn∧iv=.int .i64 i∧bv=.bool false∧Hid (∀z∈Fl.take i,samB T ch (quoF T ch K m) v z=false)∧Below w.heap.size w wi∧Row wi B2 3 ((Lv).map (Value.int .i64))∧Hid (wi.ownsRow (B2+1) 3 1 (.slice fa fn fc) fn ((Fl.map fun z:Nat=>(z:Int)).map (Value.int .i64)))) (fun _ _ iv _=>fn - (intOf iv).toNat)
   case atStart=>exact ⟨0,Nat.zero_le _,rfl,rfl,zhd fun z hz=>by simp at hz,ex2,RL2,HF2⟩
   case round=>
    clear ex2 RL2 HF2;obtain ⟨i,hi,rfl,rfl,HJ,ex,RL,HF⟩:=hrel;by_cases hil:i<fn
    case neg=>
     obtain rfl:i=fn:=by omega
     have HE:Hid (lst=v):=zhd (HNON.out fun z hz=>HJ.out z (by rw[HFL.out,List.take_length];exact hz));have HL2:Hid (LabI T ch K m (v+1) Lv):=zhd (by rw[HLVE.out,←HE.out];rw[HE.out];have:=HSTP.out;rw[HE.out]at this;exact this);have HN2:=zhd (HNEW.out HE.out);have hsz:=RL.lt;have HRL:=zhd RL;clear RL;go_wp2_with (at_builtin;refine zZ rfl (.tmp 67) (.tmp 69) 36 rfl 3 _ 8 Tryz.underlying36 zG rfl (B2+1) _ _ _ rfl HF.out (.int .i64 v) rfl rfl (by omega) (by omega) (by omega) ?_;intro g' c' w5 hown5 hbel5 hag5 hat5);have HF5:Hid (w5.ownsRow (B2+1) 3 1 (.slice (some ⟨g',0,none⟩) (i+1) c') (i+1) (((firL T ch K m (v+1)).map fun z:Nat=>(z:Int)).map (Value.int .i64))):=zhd (by rw[HN2.out,foldCast];exact hown5);have HFL5:Hid (i+1=(firL T ch K m (v+1)).length):=zhd (by rw[HN2.out,List.length_append,←HFL.out];rfl);have RL5:=HRL.out.agree (S:=fun b=>b=B2) (.of_below hbel5 fun b hb _=>by omega) rfl;have ex5:=ex.trans (hbel5.mono (by have:=HBW.out;omega));clear HRL hown5 hbel5 hag5 hat5 ex HF;go_wp2;go_roundw
     case rel=>exact ⟨v+1,Lv,_,_,_,by omega,by go_num,rfl,HL2,ex5,RL5,HF5,HFL5⟩
     case measure=>simp[intOf];omega
    have hi':=HIXF.out (fun _=>True) wr HF.out;have hil2:i<(Fl.map fun z:Nat=>(z:Int)).length:=by rw[List.length_map,←HFL.out];exact hil
    have hilF:i<Fl.length:=by rw[←HFL.out];exact hil
    have qi:∀W:World,(Instr.indexAt 36 (.slice fa fn fc) (.int .i64 i)).run Tryz.prog W=.ok (.pointer (some (adr fa i))) W:=fun W=>by
     have:=(show Ints (fun b=>B2+1≤b) wr (.slice fa (Fl.map fun z:Nat=>(z:Int)).length fc) (Fl.map fun z:Nat=>(z:Int)) by rw[List.length_map,←HFL.out];exact hi').idx hil2 W;rw[List.length_map,←HFL.out]at this;exact this
    have ci:=hi'.cellN hil2;rw[yv hil2,List.getElem_map]at ci;have hzm:=List.getElem_mem hilF;have HTK:Hid (∀z∈Fl.take (i+1),z∈Fl.take i∨z=Fl[i]):=zhd fun z hz=>by
     rw[←List.take_append_getElem hilF,List.mem_append,List.mem_singleton]at hz;exact hz
    obtain ⟨z,hz⟩:=zn (Fl[i]);rw[←hz]at ci hzm HTK;have hzT:z<T.length:=by have:=(HFA.out z hzm).1;omega
    have KS2:=zhd (KS.out (fun b=>b=B2) (.slice (some ⟨B2,0,none⟩) T.length T.length) Lv v z HLV.out.1 hlt hzT wr ex (by
     have:=RL.ints (by rw[HLV.out.1];unfold maxLen;omega) HLV.out.2.1;rw[HLV.out.1]at this;exact this))
    rw[HSR.out z hzT]at KS2;have HHZ:=zhd (HHIT.out z hzm);have HZV:Hid (z<v):=zhd (HFA.out z hzm).1;obtain ⟨b,hb⟩:=zn (samB T ch (quoF T ch K m) v z);rw[←hb]at KS2 HHZ;have HBZ:=zhd hb;have bi:=World.block_lt_of_cell? _ _ ci;have lB:=RL.lt;clear hb hz hzm hi' hil2 hilF;go_wp2_with fail;refine KS2.out.mono ?_;rintro _ w1 ⟨_,rfl,hb1,rfl⟩;replace RL:=RL.ext hb1;replace ex:=za ex hb1;replace HF:=zhd (yC HF.out hb1);clear hb1 KS2 ci bi lB qi;cases b with
    | false=>
     have HJ2:Hid (∀q∈Fl.take (i+1),samB T ch (quoF T ch K m) v q=false):=zhd fun q hq=>by
      rcases HTK.out q hq with h1 | h1
      ·exact HJ.out q h1
      ·rw[h1];exact HBZ.out.symm
     go_wp2;go_roundw
     case rel=>exact ⟨i+1,by omega,by go_num,rfl,HJ2,ex,RL,HF⟩
     case measure=>simp[intOf];omega
    | true=>
     have HE:Hid (lst=z):=zhd (HHZ.out rfl);have HL2:Hid (LabI T ch K m (v+1) (L.set v (z:Int))):=zhd (by have:=HSTP.out;rw[HE.out]at this;exact this);have HFO:=HOLD.out (by rw[HE.out];have:=HZV.out;omega);rw[←HFO]at HF HFL;have cv:=rowInt RL (k:=v) (by rw[HLV.out.1];exact hlt);have fv:=RL.free v;have lb:=RL.lt;have RL2:=rowSet RL v z;rw[HSS.out]at RL2;have ex2:=ex.setCell (p:=⟨B2,v,none⟩) (by have:=HBW.out;simpa using this) (.int .i64 z);have HF2:=zhd (zM (S:=fun b=>B2+1≤b) HF.out (.of_grown (zm w1 B2 v (.int .i64 z)) fun b hb e=>by injection e with e;omega) fun q hq=>(HF.out.lt q hq).1);clear HFO RL ex HF;go_wp2;go_roundw
     case rel=>exact ⟨v+1,_,fa,fn,fc,by omega,by go_num,rfl,HL2,ex2,RL2,HF2,HFL⟩
     case measure=>simp[intOf];omega
end Go.Proofs.YtiabbjolepnjkaaGreat
