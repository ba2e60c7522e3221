/- Part of the proof that the laws answer true for every input. -/
import Derived.Test.YtiabbjolepnjkaaGreatPMaA33
import Derived.Test.YtiabbjolepnjkaaGreatPMaC06
set_option linter.unusedSimpArgs false
set_option linter.unnecessarySimpa false
set_option linter.unusedVariables false
set_option maxRecDepth 100000
set_option maxHeartbeats 40000000
namespace Go.Proofs.YtiabbjolepnjkaaGreat
open Go.RowKit
attribute [local go_sem ↓] Go.wp_at_zero Go.wp_at_succ
theorem walkMessageCounts {S0 S2:Nat→Prop} {w:World} {v vcl:Value} {s:SysF} {cl:List Int} (h0:SysV S0 w v s) (h02:Ints S2 w vcl cl):
  Calls Tryz.prog 8 #[v,vcl] w (Post w fun _ r=>r=.bool true):=by
 have h:SysV TT w v s:=h0.mono fun _ _=>trivial;have h2:Ints TT w vcl cl:=h02.mono fun _ _=>trivial;clear h0 h02;have KFS:Hid (∀W,Below w.heap.size w W→Calls Tryz.prog 15 #[v] W (Post W fun _ r=>Tells (FewQ s) r)):=zhd fun W hW=>xZ (h.ext hW);have KP:Hid (FewQ s→∀W,Below w.heap.size w W→Calls Tryz.prog 33 #[v,vcl] W (Post W fun _ q=>q=.tuple #[bitA s cl,mesE s cl])):=zhd fun hf W hW=>ZN (h.ext hW) hf.1.p.few (h2.ext hW) hf.2;have KR:Hid (FewQ s→∀W,Below w.heap.size w W→Calls Tryz.prog 34 #[v,vcl] W (Post W fun _ q=>q=.tuple #[bitA s cl,mesE s cl])):=zhd fun hf W hW=>zcI (h.ext hW) hf.1.p.few.small (h2.ext hW) (Nat.le_trans hf.2 (by decide));obtain ⟨d1,hd1⟩:=zn (mesE s cl);rw[←hd1]at KP KR;clear hd1;obtain ⟨a1,ha1⟩:=zn (bitA s cl);rw[←ha1]at KP KR;clear ha1;have gd1:(d1==d1)=true:=by simp
 have ga1:(a1==a1)=true:=by simp
 obtain ⟨vc,vs,vt,vx,rfl,hc,hs,ht,hx⟩:=h;obtain ⟨ca,cc,rfl,_⟩:=hc.form;obtain ⟨sa,sc,rfl,_⟩:=hs.form;obtain ⟨ta,tc,rfl,_⟩:=ht.form;obtain ⟨xa,xc,rfl,xad,_⟩:=hx.form2;obtain ⟨a2,c2,rfl,_⟩:=h2.form;obtain ⟨n,hn⟩:=zn cl.length;rw[←hn]at KP KR ⊢;obtain ⟨ex,R0⟩:=zb1 w [s.p.n,s.p.ins,s.p.outs,.slice ca s.p.cs.length cc,s.p.an,.slice sa s.p.st.length sc,s.p.rounds,s.tn,.slice ta s.tab.length tc,.slice xa s.ex.length xc] 35;clear hc hs ht hx h2 hn;go_enter Tryz.func8,Tryz.ntmps8;obtain ⟨tR00,tR01,tR02,tR03,tR04,tR05,tR06,tR07,tR08,tR09⟩:=R0.ten;have lR0:=R0.lt;go_wp2_with fail;refine (KFS.out _ ex).mono ?_;rintro _ w1 ⟨_,rfl,hb,b0,rfl,hb0⟩;replace R0:=R0.ext hb;replace ex:=za ex hb;clear hb tR00 tR01 tR02 tR03 tR04 tR05 tR06 tR07 tR08 tR09 lR0 KFS;cases b0 with
 | false=>
  clear hb0;go_wp2_with fail;refine (zO _).mono ?_;rintro _ w99 ⟨_,rfl,hb,rfl⟩;replace ex:=za ex hb;clear hb R0;go_wp2;go_ret;exact .mk ex rfl
 | true=>
 have hfew:=hb0 rfl;clear hb0;by_cases h9n:200<n
 ·have d9n:decide (200<n)=true:=decide_eq_true h9n;have d8n:decide ((200:Int)<(n:Int))=true:=decide_eq_true (by omega);go_wp2_with fail;refine (zO _).mono ?_;rintro _ w99 ⟨_,rfl,hb,rfl⟩;replace ex:=za ex hb;clear hb R0;go_wp2;go_ret;exact .mk ex rfl
 have d9n:decide (200<n)=false:=decide_eq_false h9n;have d8n:decide ((200:Int)<(n:Int))=false:=decide_eq_false (by omega);obtain ⟨tR00,tR01,tR02,tR03,tR04,tR05,tR06,tR07,tR08,tR09⟩:=R0.ten;have lR0:=R0.lt;go_wp2_with fail;refine (KP.out hfew _ ex).mono ?_;rintro _ w2 ⟨_,rfl,hb,rfl⟩;replace R0:=R0.ext hb;replace ex:=za ex hb;clear hb tR00 tR01 tR02 tR03 tR04 tR05 tR06 tR07 tR08 tR09 lR0 KP;obtain ⟨tR00,tR01,tR02,tR03,tR04,tR05,tR06,tR07,tR08,tR09⟩:=R0.ten;have lR0:=R0.lt;go_wp2_with fail;refine (KR.out hfew _ ex).mono ?_;rintro _ w3 ⟨_,rfl,hb,rfl⟩;replace R0:=R0.ext hb;replace ex:=za ex hb;clear hb tR00 tR01 tR02 tR03 tR04 tR05 tR06 tR07 tR08 tR09 lR0 KR;go_wp2_with fail;refine (zO _).mono ?_;rintro _ w99 ⟨_,rfl,hb,rfl⟩;replace ex:=za ex hb;clear hb R0;go_wp2;go_ret;exact .mk ex rfl
end Go.Proofs.YtiabbjolepnjkaaGreat
