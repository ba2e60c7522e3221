/- Part of the proof that the laws answer true for every input. -/
import Derived.Test.YtiabbjolepnjkaaGreatPDfC04
set_option linter.unusedSimpArgs false
set_option linter.unnecessarySimpa false
set_option linter.unusedVariables false
set_option maxRecDepth 100000
set_option maxHeartbeats 40000000
namespace Go.Proofs.YtiabbjolepnjkaaGreat
open Go.RowKit Go.Shelf
attribute [local go_sem ↓] Go.wp_at_zero Go.wp_at_succ
attribute [local go_sem] Oper.semAt_some
theorem Z1 {F:Fence} {nf:Nat} {P:Program} {w:World} {ops:Array Oper} {rest:List Oper} {o:Oper} {a:Act} {Q:Exit→Act→World→Prop} (hgd:o.guard=none) (s x:Operand) (t:TypeId)
  (ho:o.op=.call {callee:=.builtin .append,args:=#[s,x],argTypes:=#[t,t]}) (e:TypeId) (z:Value) (bytes:Nat) (ht:P.underlying t=some (.slice e))
  (hinfo:(P.info? e).map (fun i=>(i.zero,i.size,i.bytes))=some (some z,1,bytes)) (hz1:z.cells.size=1) (base:Nat) (v:Value) (n:Nat) (xs:List Value) (hs:a.eval s=v) (hown:w.ownsRow base e 1 v n xs)
  (ad:Addr) (m c:Nat) (news:List Value) (hx:a.eval x=.slice (some ad) m c) (hl:news.length=m) (hcell:∀j u,news[j]? =some u→w.cell? (ad.add j)=some u) (h1:∀u∈news,u.oneCell'=true)
  (hbytes:(n+m) * bytes≤140737488355328) (hn:n+m≤9223372036854775807) (hbase:base≤w.heap.size)
  (h:∀v' w',w'.ownsRow base e 1 v' (n+m) (xs++news)→Below base w w'→(∀S:Nat→Prop,(∀k,v.ownBlock=some k→¬S k)→Agree S w w')→wpListIn F nf P ops Q rest (a.put o.dst v') w'):
  wpListIn F nf P ops Q (o::rest) a w:=by
 obtain ⟨i,hi,hz,hz2,hz3⟩:=info_parts hinfo;refine wpListIn_plain hgd fun K hK'=>?_;have hlt:=hown.lt;obtain ⟨v',w',hrun,r1,r2,r3⟩:=yr (P:=P) w base t o.type e i z 1 bytes ht hi hz hz2 hz3 hz1 (by decide) v n xs hown ad m c news (by omega) hcell h1 (by unfold maxLen;omega) hbytes hbase;unfold Oper.wpIn;refine ⟨?_,?_⟩
 ·simp[Oper.about,ho,resolve,Target.leads,Sem.run_pure]
 ·rw[Oper.semAt_plain F _ _ (by rw[ho];intro c hc';cases hc')];simp[execOp,ho,resolve,invoke,builtin,hs,hx,hrun,Result.andThen];exact hK' _ _ (h v' w' r1 ((Below.refl _ _).grown r2 hbase (fun k hk=>(hlt k hk).1)) (fun S hS=>.of_grown r2 (fun k hk e1=>hS k e1 hk)))
def PthR (B:Nat) (D:List Int) (w':World) (r:Value):Prop:=(D=[]∧r=.slice none 0 0)∨(D≠[]∧∃a c,r=.slice (some a) D.length c∧Ints (fun b=>B≤b) w' r D)
def PatC (g:Nat) (s:SysF) (ch:List Int) (m:Nat):Prop:=∀(A:Nat→Prop) (w:World) (u:Nat) (o:Int),ScnV A w g s ch→u<s.tab.length→ -1≤o→o<s.tab.length→Calls Tryz.prog 54 #[.pointer (some ⟨g,0,none⟩),u,o,m] w (Post w (PthR w.heap.size (pthT s.tab ch m u o)))
def fstN (T:List (List Int)) (ch:List Int) (m u:Nat) (o:Int) (y:Nat):List Int:=if hrsB T y u then pthT T ch m y (repT T y u o) else []
theorem zhI {T:List (List Int)} {ch:List Int} {m u:Nat} {o:Int} (h:0≤o):pthT T ch (m+1) u o=if fstL (fstN T ch m u o) 0 T.length=[] then [] else (u:Int)::fstL (fstN T ch m u o) 0 T.length:=by
 show (if o<0 then [] else _)=_;rw[if_neg (by omega)];rfl
theorem zgD {T:List (List Int)} {u y:Nat} {l:List Nat} (h:l++[y]<+:hrN T u):y<T.length∧hrsB T y u=true∧∀i,i<y→hrsB T i u=true→i∈l:=by
 have hy:y∈hrN T u:=h.subset (by simp);obtain ⟨h1,h2⟩:=Xd.1 hy;refine ⟨h1,h2,fun i hi hh=>?_⟩;have hm:i∈hrN T u:=Xd.2 ⟨by omega,hh⟩;have hp:(hrN T u).Pairwise (·<·):=by unfold hrN;exact List.Pairwise.filter _ List.pairwise_lt_range
 obtain ⟨r,hr⟩:=h;rw[←hr]at hm hp;rw[List.append_assoc,List.mem_append]at hm;rcases hm with hm | hm
 ·exact hm
 ·rw[List.append_assoc]at hp;have h3:=(List.pairwise_append.1 hp).2.1;rcases List.mem_cons.1 hm with e | hm
  ·omega
  ·have:=(List.pairwise_cons.1 h3).1 i hm;omega
theorem zfs {T:List (List Int)} {ch:List Int} {m u y:Nat} {o:Int} {l:List Nat} (h:l++[y]<+:hrN T u) (h0:∀i∈l,fstN T ch m u o i=[]) (h1:fstN T ch m u o y≠[]):fstL (fstN T ch m u o) 0 T.length=fstN T ch m u o y:=by
 obtain ⟨a,b,c⟩:=zgD h;refine zg4 (Nat.zero_le _) (by omega) (fun i _ hi=>?_) h1;cases hh:hrsB T i u with
 | true=>exact h0 i (c i hi hh)
 | false=>unfold fstN;rw[hh];simp
theorem zh8 {T:List (List Int)} {ch:List Int} {m u:Nat} {o:Int} (h0:∀i∈hrN T u,fstN T ch m u o i=[]):fstL (fstN T ch m u o) 0 T.length=[]:=by
 rw[Zz];intro i _ hi;cases hh:hrsB T i u with
 | true=>exact h0 i (Xd.2 ⟨by omega,hh⟩)
 | false=>unfold fstN;rw[hh];simp
theorem zii {w:World} {B B':Nat} {e:TypeId} {n:Nat} {v:Value} {xs:List Value} (h:w.ownsRow B e 1 v n xs) (hb:B'≤B):w.ownsRow B' e 1 v n xs:=by
 refine ⟨h.1,?_⟩;rcases h.2 with hn | ⟨g,cap,cur,e1,h1,h2,r⟩
 ·exact .inl hn
 ·exact .inr ⟨g,cap,cur,e1,Nat.le_trans hb h1,h2,r⟩
theorem XY {B:Nat} {e:TypeId} {base n:Nat} {β:Type} {v:Value} {xs:List Value}:OwnFrom B (fun (_:β) W=>W.ownsRow base e 1 v n xs):=fun s W W' row h hg hr=>
 zJ (S:=fun b=>row≠some b) h (.of_grown hg fun b hb=>hb) fun k hk e1=>by
  obtain ⟨_,o,ho,hc⟩:=hr k e1;rcases h.2 with ⟨e2,_⟩ | ⟨g,cap,cur,e2,_,hgg,_⟩
  ·rw[e2]at hk;simp[Value.ownBlock]at hk
  ·rw[e2]at hk;have:g=k:=by simpa[Value.ownBlock] using hk
   subst this;rw[hgg]at ho;cases ho;cases hc
theorem zeV (g:Nat) (s:SysF) (ch:List Int):PatC g s ch 0:=by
 intro A w u o h hu h0 ho;have hfew:=h.dat.few;have KE:Hid (∀W,Below w.heap.size w W→Calls Tryz.prog 58 #[.pointer (some ⟨g,0,none⟩),u,o] W (Post W fun _ r=>r=.bool (endB ch u o))):=zhd fun W hW=>ZO (h.ext hW) hu ho;have HP:Hid ((endB ch u o=true→pthT s.tab ch 0 u o=[(u:Int)])∧(endB ch u o=false→pthT s.tab ch 0 u o=[])):=zhd ⟨fun hh=>by
  show (if o<0∨nth ch u≠nth ch o.toNat then [(u:Int)] else [])=_;unfold endB at hh;rw[Bool.or_eq_true,decide_eq_true_iff,Bool.not_eq_true',decide_eq_false_iff_not]at hh;rw[if_pos hh],fun hh=>by
  show (if o<0∨nth ch u≠nth ch o.toNat then [(u:Int)] else [])=_;rw[if_neg];intro hn;have:endB ch u o=true:=by unfold endB;rw[Bool.or_eq_true,decide_eq_true_iff,Bool.not_eq_true',decide_eq_false_iff_not];exact hn
  rw[hh]at this;cases this⟩
 obtain ⟨D,hD⟩:=zn (pthT s.tab ch 0 u o);rw[←hD]at HP ⊢;obtain ⟨b,hb⟩:=zn (endB ch u o);rw[←hb]at KE HP;have hWF:WF (u:Int):=WF.small (by omega);clear h hu h0 ho hD hb;have ex:=zh (zh (zh (ze w (.cells #[.pointer (some ⟨g,0,none⟩)] 103)) (.cells #[u] 3)) (.cells #[.int .i64 0] 3)) (.cells #[.slice none 0 0] 36);have R0:=(((zi w [.pointer (some ⟨g,0,none⟩)] 103).alloc (.cells #[u] 3)).alloc (.cells #[.int .i64 0] 3)).alloc (.cells #[.slice none 0 0] 36);have R1:=((zi (w.alloc (.cells #[.pointer (some ⟨g,0,none⟩)] 103)) [u] 3).alloc (.cells #[.int .i64 0] 3)).alloc (.cells #[.slice none 0 0] 36);have R2:=(zi ((w.alloc (.cells #[.pointer (some ⟨g,0,none⟩)] 103)).alloc (.cells #[u] 3)) [.int .i64 0] 3).alloc (.cells #[.slice none 0 0] 36);have R3:=zi (((w.alloc (.cells #[.pointer (some ⟨g,0,none⟩)] 103)).alloc (.cells #[u] 3)).alloc (.cells #[.int .i64 0] 3)) [.slice none 0 0] 36;simp only[World.size_alloc]at R1 R2 R3;obtain ⟨B0,hB0⟩:∃B,B=w.heap.size:=⟨_,rfl⟩;obtain ⟨B1,hB1⟩:∃B,B=w.heap.size+1:=⟨_,rfl⟩;obtain ⟨B2,hB2⟩:∃B,B=w.heap.size+1+1:=⟨_,rfl⟩;obtain ⟨B3,hB3⟩:∃B,B=w.heap.size+1+1+1:=⟨_,rfl⟩;obtain ⟨w4,hw4⟩:=zn (((((w.alloc (.cells #[.pointer (some ⟨g,0,none⟩)] 103)).alloc (.cells #[u] 3)).alloc (.cells #[.int .i64 0] 3)).alloc (.cells #[.slice none 0 0] 36)));rw[←hB3]at R3;rw[←hB2]at R2;rw[←hB1]at R1;rw[←hB0]at R0;rw[←hw4]at R0 R1 R2 R3 ex;have hB3w:w.heap.size≤B3:=by omega
 have HB0:=zhd hB0;have HB1:=zhd hB1;have HB2:=zhd hB2;have HB3:=zhd hB3;have HW4:=zhd hw4;clear hw4 hB0 hB1 hB2 hB3;have e00:((0:Nat):Int)=0:=rfl;rw[e00];go_enter Tryz.func54,Tryz.ntmps54;go_wp2_with fail;rw[←HW4.out,←HB3.out,←HB2.out,←HB1.out,←HB0.out];refine (KE.out _ ex).mono ?_;rintro _ w5 ⟨_,rfl,hb5,rfl⟩;replace R1:=R1.ext hb5;replace R3:=R3.ext hb5;replace ex:=za ex hb5;have c1:=R1.zc 0 rfl;have l1:=R1.lt;have c3:=R3.zc 0 rfl;have f3:=R3.free 0;have l3:=R3.lt;have hsz:=ex.size;clear hb5 KE R0 R2 HW4;cases b with
 | true=>
  have HD:=zhd (HP.out.1 rfl);obtain ⟨wz,hwz⟩:=zn (w5.setCell ⟨B3,0,none⟩ (.slice (some ⟨w5.heap.size,0,none⟩) 1 1));have hzz:wz.heap.size=w5.heap.size:=by rw[hwz];simp
  have RX:=zi wz [u] 3;rw[hzz]at RX;have R3z:Row wz B3 36 [(.slice (some ⟨w5.heap.size,0,none⟩) 1 1)]:=by rw[hwz];exact R3.set 0 _
  have R3x:=R3z.alloc (.cells #[u] 3);have q0:=R3x.zc 0 rfl;have hex:Below w.heap.size w (wz.alloc (.cells #[u] 3)):=zh (by rw[hwz];exact ex.setCell (p:=⟨B3,0,none⟩) hB3w _) _;have HXX:=zhd hex;have HF:Hid (PthR w.heap.size D (wz.alloc (.cells #[u] 3)) (.slice (some ⟨w5.heap.size,0,none⟩) 1 1)):=zhd (by
   rw[HD.out];refine .inr ⟨by simp,_,_,rfl,?_⟩;have:=Row.ints (l:=[(u:Int)]) RX (by simp[maxLen]) (by intro y hy;rw[List.mem_singleton.1 hy];exact hWF);exact this.mono fun b hb=>by omega)
  rw[hwz]at q0 HXX HF;clear hwz hzz R3z;clear RX R3x hex R1 R3 ex HP;go_wp2;refine bodyPost_ret (v:=.slice (some ⟨w5.heap.size,0,none⟩) 1 1) (by simp[results,Tryz.results54,go_sem,q0]) rfl ?_;exact .mk HXX.out HF.out
 | false=>
  have HD:=zhd (HP.out.2 rfl);have R3x:=R3.set 0 (.slice none 0 0);have q0:=R3x.zc 0 rfl;have hex:=ex.setCell (p:=⟨B3,0,none⟩) hB3w (.slice none 0 0);have HXX:=zhd hex;have HF:Hid (PthR w.heap.size D (w5.setCell ⟨B3,0,none⟩ (.slice none 0 0)) (.slice none 0 0)):=zhd (.inl ⟨HD.out,rfl⟩);clear R3x hex R1 R3 ex HP;go_wp2;refine bodyPost_ret (v:=.slice none 0 0) (by simp[results,Tryz.results54,go_sem,q0]) rfl ?_;exact .mk HXX.out HF.out
theorem ze8 (g:Nat) (s:SysF) (ch:List Int) (m:Nat) (h6:m≤5) (KM:PatC g s ch m):PatC g s ch (m+1):=by
 intro A w u o h hu h0 ho;have hfew:=h.dat.few;have KM:=zhd KM;have hHVB:=h.block;obtain ⟨M,hM⟩:∃M:Int,M=((m+1:Nat):Int):=⟨_,rfl⟩;obtain ⟨M1,hM1⟩:∃M1:Int,M1=(m:Int):=⟨_,rfl⟩;have d0:(M==0)=false:=by rw[beq_eq_false_iff_ne];omega
 have dW:wrap64 (M - 1)=M1:=by rw[IntWalk.wrap64_in _ (by omega)];omega
 have HM1:=zhd hM1;rw[←hM];have hWF:WF (u:Int):=WF.small (by omega);have ex:=zh (zh (zh (ze w (.cells #[.pointer (some ⟨g,0,none⟩)] 103)) (.cells #[u] 3)) (.cells #[M] 3)) (.cells #[.slice none 0 0] 36);have R0:=(((zi w [.pointer (some ⟨g,0,none⟩)] 103).alloc (.cells #[u] 3)).alloc (.cells #[M] 3)).alloc (.cells #[.slice none 0 0] 36);have R1:=((zi (w.alloc (.cells #[.pointer (some ⟨g,0,none⟩)] 103)) [u] 3).alloc (.cells #[M] 3)).alloc (.cells #[.slice none 0 0] 36);have R2:=(zi ((w.alloc (.cells #[.pointer (some ⟨g,0,none⟩)] 103)).alloc (.cells #[u] 3)) [M] 3).alloc (.cells #[.slice none 0 0] 36);have R3:=zi (((w.alloc (.cells #[.pointer (some ⟨g,0,none⟩)] 103)).alloc (.cells #[u] 3)).alloc (.cells #[M] 3)) [.slice none 0 0] 36;simp only[World.size_alloc]at R1 R2 R3;obtain ⟨B0,hB0⟩:∃B,B=w.heap.size:=⟨_,rfl⟩;obtain ⟨B1,hB1⟩:∃B,B=w.heap.size+1:=⟨_,rfl⟩;obtain ⟨B2,hB2⟩:∃B,B=w.heap.size+1+1:=⟨_,rfl⟩;obtain ⟨B3,hB3⟩:∃B,B=w.heap.size+1+1+1:=⟨_,rfl⟩;obtain ⟨w4,hw4⟩:=zn (((((w.alloc (.cells #[.pointer (some ⟨g,0,none⟩)] 103)).alloc (.cells #[u] 3)).alloc (.cells #[M] 3)).alloc (.cells #[.slice none 0 0] 36)));rw[←hB3]at R3;rw[←hB2]at R2;rw[←hB1]at R1;rw[←hB0]at R0;rw[←hw4]at R0 R1 R2 R3 ex;have hB3w:w.heap.size≤B3:=by omega
 have HB0:=zhd hB0;have HB1:=zhd hB1;have HB2:=zhd hB2;have HB3:=zhd hB3;have HW4:=zhd hw4;clear hw4 hB0 hB1 hB2 hB3;have HV4:=zhd (hHVB.ext ex);by_cases ho0:o<0
 ·have HD:Hid (pthT s.tab ch (m+1) u o=[]):=zhd (by show (if o<0 then [] else _)=_;rw[if_pos ho0]);have d1:decide (o<0)=true:=decide_eq_true ho0;obtain ⟨D,hD⟩:=zn (pthT s.tab ch (m+1) u o);rw[←hD]at HD ⊢;have R3x:=R3.set 0 (.slice none 0 0);have q0:=R3x.zc 0 rfl;have hex:=ex.setCell (p:=⟨B3,0,none⟩) hB3w (.slice none 0 0);have HXX:=zhd hex;have HF:Hid (PthR w.heap.size D (w4.setCell ⟨B3,0,none⟩ (.slice none 0 0)) (.slice none 0 0)):=zhd (.inl ⟨HD.out,rfl⟩);have c2:=R2.zc 0 rfl;have l2:=R2.lt;have c3:=R3.zc 0 rfl;have f3:=R3.free 0;have l3:=R3.lt;clear R3x hex R0 R1 R2 R3 ex h hD KM hHVB HV4 hM hM1 ho0 dW;go_enter Tryz.func54,Tryz.ntmps54;go_upto_region 1 with fail;rw[←HW4.out,←HB3.out,←HB2.out,←HB1.out,←HB0.out];go_wp2;refine bodyPost_ret (v:=.slice none 0 0) (by simp[results,Tryz.results54,go_sem,q0]) rfl ?_;exact .mk HXX.out HF.out
 obtain ⟨z,rfl⟩:∃z:Nat,o=z:=⟨o.toNat,by omega⟩;have d1:decide ((z:Int)<0)=false:=decide_eq_false ho0;have hz:z<s.tab.length:=by omega
 have HPS:Hid (pthT s.tab ch (m+1) u z=if fstL (fstN s.tab ch m u z) 0 s.tab.length=[] then [] else (u:Int)::fstL (fstN s.tab ch m u z) 0 s.tab.length):=zhd (zhI (by omega));have HFF:Hid (∀(l:List Nat) y,l++[y]<+:hrN s.tab u→(∀i∈l,fstN s.tab ch m u z i=[])→fstN s.tab ch m u z y≠[]→fstL (fstN s.tab ch m u z) 0 s.tab.length=fstN s.tab ch m u z y):=zhd fun l y=>zfs;have HFN:Hid ((∀i∈hrN s.tab u,fstN s.tab ch m u z i=[])→fstL (fstN s.tab ch m u z) 0 s.tab.length=[]):=zhd zh8;obtain ⟨D,hD⟩:=zn (pthT s.tab ch (m+1) u z);rw[←hD]at HPS ⊢;have KT:=zhd (Qc w4 g u z);have HEX4:=zhd ex;have HFY:Hid (∀y,hrsB s.tab y u=true→fstN s.tab ch m u z y=pthT s.tab ch m y (repT s.tab y u z)):=zhd fun y hy=>by unfold fstN;rw[if_pos hy]
 have HLN:Hid (∀y,y<s.tab.length→(pthT s.tab ch m y (repT s.tab y u z)).length≤7∧∀x∈pthT s.tab ch m y (repT s.tab y u z),WF x):=zhd fun y hy=>by
  by_cases e:pthT s.tab ch m y (repT s.tab y u z)=[]
  ·rw[e];exact ⟨by simp,fun x hx=>by cases hx⟩
  ·obtain ⟨r,e1,e2,_,e4⟩:=zdK e;rw[e1];refine ⟨by rw[List.length_cons];omega,fun x hx=>?_⟩;rcases List.mem_cons.1 hx with e | hx
   ·rw[e];exact WF.small (by omega)
   ·obtain ⟨q,rfl,hq⟩:=e4 x hx;exact WF.small (by omega)
 have r0:=R0.zc 0 rfl;have r1:=R1.zc 0 rfl;have r2:=R2.zc 0 rfl;have l0:=R0.lt;have l1:=R1.lt;have l2:=R2.lt;clear h hD hHVB hM hM1 ho0 ex h0 ho;refine (callsIn_wide (n:=6)).1 ?_;refine callsIn_of_wp_marks Tryz.func54 rfl trivial ?_ rfl;simp only[Tryz.ntmps54,List.size_toArray,List.length_cons,List.length_nil,Nat.reduceAdd,Nat.reduceSub,Array.replicate_succ,Array.replicate_zero,List.push_toArray,List.append_toArray,List.nil_append,List.cons_append];gi_wp2_with fail
 rw[←HW4.out,←HB3.out,←HB2.out,←HB1.out,←HB0.out];refine ⟨trivial,(callsIn_wide.2 KT.out).mono ?_⟩;rintro _ _ ⟨rfl,rfl⟩;clear r0 r1 r2 l0 l1 l2 KT;have e3:=zh (zh (ze w4 (.cells #[.pointer (some ⟨g,0,none⟩)] 103)) (.cells #[u] 3)) (.cells #[z] 3);have P1:=((zi w4 [.pointer (some ⟨g,0,none⟩)] 103).alloc (.cells #[u] 3)).alloc (.cells #[z] 3);have P2:=(zi (w4.alloc (.cells #[.pointer (some ⟨g,0,none⟩)] 103)) [u] 3).alloc (.cells #[z] 3);have P3:=zi ((w4.alloc (.cells #[.pointer (some ⟨g,0,none⟩)] 103)).alloc (.cells #[u] 3)) [z] 3;simp only[World.size_alloc]at P2 P3;obtain ⟨N1,hN1⟩:=zn w4.heap.size;obtain ⟨N2,hN2⟩:=zn (w4.heap.size+1);obtain ⟨N3,hN3⟩:=zn (w4.heap.size+1+1);obtain ⟨w3,hw3⟩:=zn (((w4.alloc (.cells #[.pointer (some ⟨g,0,none⟩)] 103)).alloc (.cells #[u] 3)).alloc (.cells #[z] 3));rw[←hN3]at P3;rw[←hN2]at P2;rw[←hN1]at P1;rw[←hw3]at P1 P2 P3 e3;rw[←hw3,←hN3,←hN2,←hN1];have hx3:=za HEX4.out e3;have R03:=R0.ext e3;have R13:=R1.ext e3;have R23:=R2.ext e3;have R33:=R3.ext e3;have HV3:=zhd (HV4.out.ext e3);have zw:=hx3.size;have zR:=R33.lt;clear hw3 HV4 R0 R1 R2 R3;have hTw:∀b,(b<w.heap.size∨b=N1∨b=N2∨b=N3)→b<w3.heap.size:=fun b hb=>by have:=P1.lt;have:=P2.lt;have:=P3.lt;omega
 have HST:=Qd (T:=fun b=>b<w.heap.size∨b=N1∨b=N2∨b=N3) (n:=5) (by decide) P1 P2 P3 (HV3.out.mono fun b hb=>.inl hb.2) hu hz (.inr (.inl rfl)) (.inr (.inr (.inl rfl))) (.inr (.inr (.inr rfl))) hTw;clear hN1 hN2 hN3 P1 P2 P3 e3;gi_wp2;apply wpIn_rangeFunc_ownF (n:=6) rfl (by decide) (gf:=123) (lb:=#[.pointer (some ⟨N1,0,none⟩),.pointer (some ⟨N2,0,none⟩),.pointer (some ⟨N3,0,none⟩)]) rfl trivial (enters_of Tryz.func123 (by kernel_rfl) rfl)
  HST xI (xH hTw) (Below.refl _ _) (fun _=>rfl)
  (fun (pre:List (Hrd s.tab u)) W=>(∀y∈pre,fstN s.tab ch m u z y.1=[])∧Below w3.heap.size w3 W)
  (fun c (pre:List (Hrd s.tab u)) W=>c=.ret∧∃(l:List (Hrd s.tab u)) (y:Hrd s.tab u) (gr cr:Nat),(pre=l++[y]∧(∀i∈l,fstN s.tab ch m u z i.1=[])∧fstN s.tab ch m u z y.1≠[])∧Row W B3 36 [.slice (some ⟨gr,0,none⟩) ((fstN s.tab ch m u z y.1).length+1) cr]∧W.ownsRow w.heap.size 3 1 (.slice (some ⟨gr,0,none⟩) ((fstN s.tab ch m u z y.1).length+1) cr) ((fstN s.tab ch m u z y.1).length+1) (((u:Int)::fstN s.tab ch m u z y.1).map (Value.int .i64))∧Below w.heap.size w W)
  (OwnFrom.and (ownFrom_pure _ _) (ownFrom_below (Nat.le_refl _) (Nat.le_refl _)))
  (fun c pre W W' row hs hg hr=>by
   obtain ⟨h1,l,y,gr,cr,h2,h3,h4,h5⟩:=hs;exact ⟨h1,l,y,gr,cr,h2,yF (β:=Unit) (xs:=fun _=>[.slice (some ⟨gr,0,none⟩) ((fstN s.tab ch m u z y.1).length+1) cr]) zR () W W' row h3 hg hr,XY (β:=Unit) () W W' row h4 hg hr,ownFrom_below (β:=Unit) (Nat.le_refl _) zw () W W' row h5 hg hr⟩)
  ⟨by simp,Below.refl _ _⟩
 case hassign=>
  intro l y W Kq hK;have hK:=zhd hK;gi_wp2;exact hK.out
 case hbody=>
  rintro l pre ⟨y,hy,hh⟩ W ⟨hgd,hB⟩ hlen;dsimp only;have HB:=zhd hB;have P0:=R03.ext hB;have P1:=R13.ext hB;have P2:=R23.ext hB;have P3:=R33.ext hB;have c0:=P0.zc 0 rfl;have c1:=P1.zc 0 rfl;have c2:=P2.zc 0 rfl;have l0:=P0.lt;have l1:=P1.lt;have l2:=P2.lt;have hBw3:Below w.heap.size w W:=za hx3 hB;have hrl:=ZR (T:=s.tab) (u:=y) (w:=u) (b:=(z:Int));have KP:=zhd (KM.out _ W y (repT s.tab y u z) (HV3.out.ext hB) hy hrl.1 hrl.2);rw[←HM1.out]at KP;have HFy:=HFY.out y hh;have HLy:=HLN.out y hy;rw[←HFy]at KP HLy;have HGD:=zhd hgd;obtain ⟨ry,hry⟩:=zn (repT s.tab y u z);rw[←hry]at KP ⊢;have HNIL:Hid (fstN s.tab ch m u z y=[]→∀q∈pre++[(⟨y,hy,hh⟩:Hrd s.tab u)],fstN s.tab ch m u z q.1=[]):=zhd fun he q hq=>by
   rcases List.mem_append.1 hq with hq | hq
   ·exact HGD.out q hq
   ·rw[List.mem_singleton.1 hq];exact he
  obtain ⟨E,hE⟩:=zn (fstN s.tab ch m u z y);have HEE:=zhd hE;rw[←hE]at KP HLy HNIL;have HLE:=zhd HLy;clear hry hE HFy hrl hgd HLy hlen hB;gi_wp2_with fail
  refine ⟨trivial,(CallsIn.inRound l (callsIn_wide.2 KP.out)).mono ?_⟩;rintro _ w5 ⟨v5,rfl,hb5,hr5⟩;clear c0 c1 c2 l0 l1 l2 KP P0 P2;replace P1:=P1.ext hb5;replace P3:=P3.ext hb5;have hW5:=za hBw3 hb5;have HK5:Hid (KeepsOthers W w5∧Agree (fun b=>b<w.heap.size∨b=N1∨b=N2∨b=N3) W w5∧Below w3.heap.size w3 w5):=zhd ⟨zY hb5,.of_ext hb5,za HB.out hb5⟩;rcases hr5 with ⟨hE0,rfl⟩ | ⟨hE0,⟨ra,rc,rfl,hi5⟩⟩
  ·have HN:=zhd (HNIL.out hE0);clear hb5 hE0;gi_wp2;exact ⟨HK5.out.1,HK5.out.2.1,HN.out,HK5.out.2.2⟩
  have c1:=P1.zc 0 rfl;have l1:=P1.lt;have c3:=P3.zc 0 rfl;have f3:=P3.free 0;have l3:=P3.lt;have eX:=ze w5 (.cells #[u] 3);have HXO:=zhd ((zi w5 [u] 3).owns (base:=w5.heap.size) (Nat.le_refl _) (by simp[maxLen]));have HCC:Hid (∀j q,(E.map (Value.int .i64))[j]? =some q→(w5.alloc (.cells #[u] 3)).cell? (ra.add j)=some q):=zhd fun j q hq=>by
   have hj:j<E.length:=by have:=(List.getElem?_eq_some_iff.1 hq).1;simpa using this
   have h1:=zm (hi5.cellN hj) eX;rw[List.getElem?_map,get?_nth hj]at hq;obtain ⟨_,_,e1,ad,_⟩:=hi5.form;cases e1;rcases ad with ⟨e2,_⟩ | ⟨b,off,e2,_⟩
   ·omega
   ·cases e2;rw[Addr.add_lit];exact h1.trans hq
  have HBY:Hid ((1+E.length) * 8≤140737488355328∧1+E.length≤9223372036854775807∧w5.heap.size≤(w5.alloc (.cells #[u] 3)).heap.size):=zhd ⟨by have:=HLE.out.1;omega,by have:=HLE.out.1;omega,by simp⟩;have hsz5:=hW5.size;have HLEN:Hid ((E.map (Value.int .i64)).length=E.length):=zhd (by simp);clear hi5;gi_wp2_with (gi_at_builtin;refine Z1 rfl (.tmp 37) (.tmp 38) 36 rfl 3 _ 8 Tryz.underlying36 zI rfl w5.heap.size (.slice (some ⟨w5.heap.size,0,none⟩) 1 1) 1 [u] rfl HXO.out ra E.length rc (E.map (Value.int .i64)) rfl HLEN.out HCC.out (Y0 E) HBY.out.1 HBY.out.2.1 HBY.out.2.2 ?_;intro v6 w6 ho6 hb6 hag6;obtain ⟨g6,c6,rfl⟩:=Zk ho6 (by omega);have hbx:=eX.trans hb6;have k3:=zm c3 hbx;have kf3:=((P3.ext hbx).free 0);have kl3:=(P3.ext hbx).lt)
  have HO6:Hid (w6.ownsRow w.heap.size 3 1 (.slice (some ⟨g6,0,none⟩) (1+E.length) c6) (1+E.length) (((u:Int)::E).map (Value.int .i64))):=zhd (zii ho6 hsz5);have hb65:Below w.heap.size w w6:=za hW5 hbx;have FIN:Hid (∀W',W'=w6.setCell ⟨B3,0,none⟩ (.slice (some ⟨g6,0,none⟩) (1+E.length) c6)→KeepsOthers W W'∧∃(l:List (Hrd s.tab u)) (y':Hrd s.tab u) (gr cr:Nat),(pre++[(⟨y,hy,hh⟩:Hrd s.tab u)]=l++[y']∧(∀i∈l,fstN s.tab ch m u z i.1=[])∧fstN s.tab ch m u z y'.1≠[])∧Row W' B3 36 [.slice (some ⟨gr,0,none⟩) ((fstN s.tab ch m u z y'.1).length+1) cr]∧W'.ownsRow w.heap.size 3 1 (.slice (some ⟨gr,0,none⟩) ((fstN s.tab ch m u z y'.1).length+1) cr) ((fstN s.tab ch m u z y'.1).length+1) (((u:Int)::fstN s.tab ch m u z y'.1).map (Value.int .i64))∧Below w.heap.size w W'):=zhd fun W' hW'=>by
   subst hW';have hl:1+E.length=E.length+1:=by omega
   have hO6:=HO6.out;rw[hl]at hO6 ⊢;refine ⟨((zY hb5).trans (zY hbx)).trans (.setCell _ _ _),pre,⟨y,hy,hh⟩,g6,c6,⟨rfl,HGD.out,by show fstN s.tab ch m u z y≠[];rw[←HEE.out];exact hE0⟩,?_,?_,hb65.setCell (by simpa using hB3w) _⟩
   ·show Row _ B3 36 [.slice (some ⟨g6,0,none⟩) ((fstN s.tab ch m u z y).length+1) c6];rw[←HEE.out];exact (P3.ext hbx).set 0 _
   ·show World.ownsRow _ w.heap.size 3 1 (.slice (some ⟨g6,0,none⟩) ((fstN s.tab ch m u z y).length+1) c6) ((fstN s.tab ch m u z y).length+1) (((u:Int)::fstN s.tab ch m u z y).map (Value.int .i64));rw[←HEE.out];refine zJ (S:=fun b=>b≠B3) hO6 (.of_grown (zj _ _ _ _) fun b hb e=>hb (by injection e with e;exact e.symm)) fun k hk e=>?_;have e2:g6=k:=by simpa[Value.ownBlock] using hk
    have h3:=ho6.lt g6 rfl;omega
  clear ho6 hb6 hag6 hbx hb65 hb5 HO6 P1 P3 c1 l1 c3 f3 l3;gi_wp2;exact ⟨(FIN.out _ rfl).1,rfl,(FIN.out _ rfl).2⟩
 case hstop=>
  rintro Dd c pre W hDd hSp ⟨rfl,l,y,gr,cr,⟨hpre,hl0,hy0⟩,PB,hO,hBw3⟩ hK;have hFF:fstL (fstN s.tab ch m u z) 0 s.tab.length=fstN s.tab ch m u z y.1:=by
   refine HFF.out (l.map (·.1)) y.1 ?_ (fun i hi=>?_) hy0
   ·have:=hSp;rw[hpre,List.map_append]at this;exact this
   ·obtain ⟨q,hq,rfl⟩:=List.mem_map.1 hi;exact hl0 q hq
  have hDD:D=(u:Int)::fstN s.tab ch m u z y.1:=by rw[HPS.out,hFF,if_neg hy0]
  have hLL:=HLN.out y.1 y.2.1;rw[←HFY.out y.1 y.2.2]at hLL;have HDD:=zhd hDD;have HL2:=zhd hLL.2;clear hDD hLL hFF hpre hl0 hy0 hSp;gi_wp2;refine ⟨by simp,.inl ⟨_,_,rfl,run_takeDeferred hK,?_⟩⟩;have P9:=PB.putObj (.deferred none) hK rfl;have hB9:=hBw3.grown (grownBy_putObj' _ Dd (.deferred none)) hBw3.size (fun k hk=>by cases hk;omega);have q9:=P9.zc 0 rfl;have hO9:(W.putObj Dd (.deferred none)).ownsRow w.heap.size 3 1 (.slice (some ⟨gr,0,none⟩) ((fstN s.tab ch m u z y.1).length+1) cr) ((fstN s.tab ch m u z y.1).length+1) (((u:Int)::fstN s.tab ch m u z y.1).map (Value.int .i64)):=XY (B:=0) (β:=Unit) () W _ (some Dd) hO (grownBy_putObj' _ Dd (.deferred none)) (fun r hr=>by cases hr;exact ⟨Nat.zero_le _,_,hK,rfl⟩);refine ⟨.slice (some ⟨gr,0,none⟩) ((fstN s.tab ch m u z y.1).length+1) cr,by simp[results,Tryz.results54,go_sem,q9],.mk hB9 (.inr ⟨by rw[HDD.out];simp,_,cr,by rw[HDD.out];rfl,?_⟩)⟩;rw[HDD.out];exact Ints.of_own hO9 fun q hq=>by
   rcases List.mem_cons.1 hq with e | hq
   ·rw[e];exact hWF
   ·exact HL2.out q hq
 case hdone=>
  rintro Dd xs W hDd hS ⟨hgd,hB⟩ hK;have hDD:D=[]:=by
   rw[HPS.out,if_pos];refine HFN.out fun i hi=>?_;rw[←hS]at hi;obtain ⟨q,hq,rfl⟩:=List.mem_map.1 hi;exact hgd q hq
  have HDD:=zhd hDD;have PN:=R33.ext hB;have hBw3:Below w.heap.size w W:=za hx3 hB;have q0:=PN.zc 0 rfl;have f0:=PN.free 0;have l0:=PN.lt;clear hgd hS hDD;have KD:(W.setCell ⟨B3,0,none⟩ (.slice none 0 0)).heap[Dd]? =some (.deferred (some [])):=(KeepsOthers.setCell W _ _).same Dd _ hK rfl;have P9:=(PN.set 0 (.slice none 0 0)).putObj (.deferred none) KD rfl;have hB8:Below w.heap.size w (W.setCell ⟨B3,0,none⟩ (.slice none 0 0)):=hBw3.setCell (by simpa using hB3w) _;have hB9:=hB8.grown (grownBy_putObj' _ Dd (.deferred none)) hB8.size (fun k hk=>by cases hk;omega);have q9:=P9.zc 0 rfl;gi_wp2;refine ⟨by simp,.inl ⟨_,_,rfl,run_takeDeferred KD,?_⟩⟩;exact ⟨.slice none 0 0,by simp[results,Tryz.results54,go_sem,q9],.mk hB9 (.inl ⟨HDD.out,rfl⟩)⟩
theorem Xe (g:Nat) (s:SysF) (ch:List Int):∀m,m≤6→PatC g s ch m
 | 0,_=>zeV g s ch
 | m+1,h=>ze8 g s ch m (by omega) (Xe g s ch m (by omega))
end Go.Proofs.YtiabbjolepnjkaaGreat
