/- Part of the proof that the laws answer true for every input. -/
import Derived.Test.YtiabbjolepnjkaaGreatPDfA22
set_option linter.unusedSimpArgs false
set_option linter.unnecessarySimpa false
set_option linter.unusedVariables false
set_option maxRecDepth 100000
set_option maxHeartbeats 40000000
namespace Go.Proofs.YtiabbjolepnjkaaGreat
open Go.RowKit
attribute [local go_sem ↓] Go.wp_at_zero Go.wp_at_succ
theorem qZ (w:World) (o:Obj):(w.alloc o).drew.heap.size=w.heap.size+1:=by show (w.alloc o).heap.size=_;rw[World.size_alloc]
theorem zfV {w:World} {base size n:Nat} {e:TypeId} {v:Value} {xs:List Value} (h:w.ownsRow base e size v n xs):∃a n c,v=.slice a n c:=by
 rcases h.2 with ⟨e,_⟩ | ⟨g,cap,cur,e,_⟩
 ·exact ⟨_,_,_,e⟩
 ·exact ⟨_,_,_,e⟩
theorem OwnRows.agree {e er:TypeId} {base:Nat} {w w':World} {v:Value} {vs:List Value} {ll:List (List Int)} {S:Nat→Prop} (h:OwnRows e er base w v vs ll) (hw:Agree S w w') (h1:∀k,v.ownBlock=some k→S k) (h2:∀j,j<ll.length→∀k,(nthV vs j).ownBlock=some k→S k):OwnRows e er base w' v vs ll:=
 ⟨zJ h.row hw h1,fun j hj=>zJ (h.rows j hj) hw (h2 j hj),h.apart,h.out⟩
def hrdP (T:List (List Int)) (u i w:Nat):List Int:=hrdL T u w++if prcT T w<i∧hrsB T u w=true then [(u:Int)] else []
def layU (T:List (List Int)) (u:Nat):List (List Int):=(List.range T.length).map (hrdL T u)
def layP (T:List (List Int)) (u i:Nat):List (List Int):=(List.range T.length).map (hrdP T u i)
theorem zdQ (T:List (List Int)) (u:Nat):(layU T u).length=T.length:=by simp[layU]
theorem Qi (T:List (List Int)) (u i:Nat):(layP T u i).length=T.length:=by simp[layP]
theorem zfy {T:List (List Int)} {u i w:Nat} (h:w<T.length):nthL (layP T u i) w=hrdP T u i w:=by simp[layP,nthL,h]
theorem zhl (T:List (List Int)):layU T T.length=hrdLL T:=rfl
theorem zgd (T:List (List Int)) (u:Nat):layP T u 0=layU T u:=by
 unfold layP layU;apply List.map_congr_left;intro w _;unfold hrdP;rw[if_neg (fun h=>by omega),List.append_nil]
theorem zf9 (T:List (List Int)):layU T 0=List.replicate T.length []:=by
 unfold layU;apply List.ext_getElem
 ·simp
 ·intro i h1 h2;simp[hrdL]
theorem zgs {N K:Nat} {T:List (List Int)} (hT:TabOK N K T) (u:Nat):layP T u 5=layU T (u+1):=by
 unfold layP layU;apply List.map_congr_left;intro w hw;rw[List.mem_range]at hw;have hp:=(yO hT hw).2.1;unfold hrdP hrdL;rw[List.range_succ,List.filter_append,List.map_append,List.filter_cons];by_cases h:hrsB T u w=true
 ·rw[if_pos ⟨hp,h⟩,if_pos h];rfl
 ·rw[if_neg (fun e=>h e.2),if_neg h];rfl
theorem zfG {N K:Nat} {T:List (List Int)} (hT:TabOK N K T) {u i:Nat} (hu:u<T.length) (hi:i<5) (h:nth (nthL T u) (3+i)<0):layP T u (i+1)=layP T u i:=by
 unfold layP;apply List.map_congr_left;intro w hw;rw[List.mem_range]at hw;unfold hrdP;congr 1
 by_cases e:prcT T w<i∧hrsB T u w=true
 ·rw[if_pos e,if_pos ⟨by omega,e.2⟩]
 ·rw[if_neg e,if_neg];rintro ⟨h1,h2⟩;by_cases e2:prcT T w=i
  ·rw[xX,e2]at h2;omega
  ·exact e ⟨by omega,h2⟩
theorem zhS {N K:Nat} {T:List (List Int)} (hT:TabOK N K T) {u i x:Nat} (hu:u<T.length) (hi:i<5) (hx:x<T.length) (h:nth (nthL T u) (3+i)=(x:Int)):layP T u (i+1)=(layP T u i).set x (nthL (layP T u i) x++[(u:Int)]):=by
 have hp:=zgw hT hu hx hi h;apply List.ext_getElem
 ·simp[layP]
 ·intro j h1 h2;have hj:j<T.length:=by rw[Qi]at h1;exact h1
  rw[List.getElem_set];have e0:(layP T u (i+1))[j]=hrdP T u (i+1) j:=by simp[layP]
  have e1:(layP T u i)[j]'(by rw[Qi];exact hj)=hrdP T u i j:=by simp[layP]
  rw[e0,e1,zfy hx];by_cases e:x=j
  ·subst e;rw[if_pos rfl];unfold hrdP;rw[if_pos ⟨by omega,by rw[xX,hp];exact h⟩,if_neg (fun e=>by omega),List.append_nil]
  ·rw[if_neg e];unfold hrdP;congr 1
   by_cases e2:prcT T j<i∧hrsB T u j=true
   ·rw[if_pos e2,if_pos ⟨by omega,e2.2⟩]
   ·rw[if_neg e2,if_neg];rintro ⟨h3,h4⟩;by_cases e3:prcT T j=i
    ·rw[xX,e3]at h4;omega
    ·exact e2 ⟨by omega,h4⟩
theorem zeq (T:List (List Int)) (u i:Nat) {w:Nat} (h:w<T.length):(nthL (layP T u i) w).length≤u+1:=by
 rw[zfy h];unfold hrdP hrdL;rw[List.length_append,List.length_map];have:=Nat.le_trans (List.length_filter_le (fun u=>hrsB T u w) (List.range u)) (Nat.le_of_eq List.length_range);split<;>simp<;>omega
theorem zh4 {T:List (List Int)} (h:T.length≤100000):∀l∈hrdLL T,∀x∈l,WF x:=fun l hl x hx=>by
 unfold hrdLL at hl;obtain ⟨w,_,rfl⟩:=List.mem_map.1 hl;unfold hrdL at hx;obtain ⟨u,hu,rfl⟩:=List.mem_map.1 hx;have:=List.mem_range.1 (List.mem_filter.1 hu).1;exact WF.small (by omega)
def OfQ (B:Nat) (A:Nat→Prop) (s:SysF) (ch:List Int) (w':World) (r:Value):Prop:=(ruleE s ch=0∧∃g,r=.tuple #[.pointer (some ⟨g,0,none⟩),.int .i64 0]∧ScnV (fun b=>A b∨B≤b) w' g s ch∧B≤g)∨(ruleE s ch≠0∧r=.tuple #[.pointer none,ruleE s ch])
theorem Xt {S:Nat→Prop} {w:World} {v vch:Value} {s:SysF} {ch:List Int} (h:SysV S w v s) (hf:PFew s.p) (h2:Ints S w vch ch) (hm:s.tab.length≤120):
  Calls Tryz.prog 47 #[v,.agg #[vch]] w (Post w (OfQ w.heap.size (fun b=>S b∧b<w.heap.size) s ch)):=by
 have KC:Hid (∀W,Below w.heap.size w W→Calls Tryz.prog 83 #[v,.agg #[vch]] W (Post W fun _ r=>r=.int .i64 (ruleE s ch))):=zhd fun W hW=>zbt (h.ext hW) hf (h2.ext hW);have HG:Hid (ruleE s ch=0→GoodS s s.N s.K∧ch.length=s.tab.length):=zhd fun h0=>yj h h0;have HE:Hid (∀w',ruleE s ch≠0→OfQ w.heap.size (fun b=>S b∧b<w.heap.size) s ch w' (.tuple #[.pointer none,ruleE s ch])):=zhd fun w' h0=>.inr ⟨h0,rfl⟩;have HO:Hid (∀w' g,ruleE s ch=0→ScnV (fun b=>(S b∧b<w.heap.size)∨w.heap.size≤b) w' g s ch→w.heap.size≤g→OfQ w.heap.size (fun b=>S b∧b<w.heap.size) s ch w' (.tuple #[.pointer (some ⟨g,0,none⟩),.int .i64 0])):=zhd fun w' g h0 h1 h3=>.inl ⟨h0,g,rfl,h1,h3⟩;obtain ⟨e,hee⟩:=zn (ruleE s ch);rw[←hee]at KC HG HE HO;obtain ⟨OQ,hOQ⟩:=zn (OfQ w.heap.size (fun b=>S b∧b<w.heap.size) s ch);rw[←hOQ]at HE HO ⊢;obtain ⟨ca,cc,sa,sc,ta,tc,xa,xc,rfl,hc,hs,ht,hx⟩:=h.zf;obtain ⟨_,_,hee2,tad,_⟩:=ht.form2;cases hee2;obtain ⟨i0,hi,hz⟩:=zK zO;have HQ:=zhd (zM Tryz.underlying30 hi hz tad);have HTV:=zhd ht;obtain ⟨a2,c2,rfl,_⟩:=h2.form;have HCH:=zhd (h2.block 0);have HTBK:=zhd ht.block;have hn2:s.tab.length≤120:=hm;obtain ⟨n,hn⟩:=zn s.tab.length;have HNN:=zhd hn;rw[←hn]at KC HQ HTV HTBK hn2 ⊢;obtain ⟨ex,R0,R1⟩:=zb2 w [s.p.n,s.p.ins,s.p.outs,.slice ca s.p.cs.length cc,s.p.an,.slice sa s.p.st.length sc,s.p.rounds,s.tn,.slice ta n tc,.slice xa s.ex.length xc] [.slice a2 ch.length c2] 35 38;clear hc hs ht hx h2 hf hm hee hOQ hi hz tad hn;go_enter Tryz.func47,Tryz.ntmps47;obtain ⟨t0,t1,t2,t3,t4,t5,t6,t7,t8,t9⟩:=R0.ten;have l0:=R0.lt;have r0:=R1.zc 0 rfl;have l1:=R1.lt;go_wp2_with fail;refine (KC.out _ ex).mono ?_;rintro _ w1 ⟨_,rfl,hb,rfl⟩;replace R0:=R0.ext hb;replace R1:=R1.ext hb;replace ex:=za ex hb;clear hb KC t0 t1 t2 t3 t4 t5 t6 t7 t8 t9 l0 r0 l1;by_cases h0:e=0
 case neg=>
  have RE:=zhd (HE.out w1 h0);have d0:(e !=0)=true:=by simp[h0]
  clear h0 HE HO HG HTBK HCH;go_wp2;go_ret2;exact .mk ex RE.out
 obtain ⟨hgd,hchl⟩:=HG.out h0;have HO1:=zhd (fun w' g=>HO.out w' g h0);have d0:(e !=0)=false:=by simp[h0]
 have HGD:=zhd hgd;have HCL:=zhd hchl;have HEX:=zhd ex;have KEEP:Hid (∀w',Below w1.heap.size w1 w'→(fun w':World=>w'.cell? ⟨w.heap.size,0,none⟩=some (.int .i64 s.p.n)∧w'.cell? ⟨w.heap.size,1,none⟩=some (.int .i64 s.p.ins)∧w'.cell? ⟨w.heap.size,2,none⟩=some (.int .i64 s.p.outs)∧w'.cell? ⟨w.heap.size,3,none⟩=some (.slice ca s.p.cs.length cc)∧w'.cell? ⟨w.heap.size,4,none⟩=some (.int .i64 s.p.an)∧w'.cell? ⟨w.heap.size,5,none⟩=some (.slice sa s.p.st.length sc)∧w'.cell? ⟨w.heap.size,6,none⟩=some (.int .i64 s.p.rounds)∧w'.cell? ⟨w.heap.size,7,none⟩=some (.int .i64 s.tn)∧w'.cell? ⟨w.heap.size,8,none⟩=some (.slice ta n tc)∧w'.cell? ⟨w.heap.size,9,none⟩=some (.slice xa s.ex.length xc)∧w'.cell? ⟨w.heap.size+1,0,none⟩=some (.slice a2 ch.length c2)) w'):=zhd fun w' hw=>⟨(R0.ext hw).zc 0 rfl,(R0.ext hw).zc 1 rfl,(R0.ext hw).zc 2 rfl,(R0.ext hw).zc 3 rfl,(R0.ext hw).zc 4 rfl,(R0.ext hw).zc 5 rfl,(R0.ext hw).zc 6 rfl,(R0.ext hw).zc 7 rfl,(R0.ext hw).zc 8 rfl,(R0.ext hw).zc 9 rfl,(R1.ext hw).zc 0 rfl⟩;have HR0:=zhd R0;have hmm:=@run_makeMap Tryz.prog;have hmk:=run_make_row' 146 36 (.slice none 0 0) 24 Tryz.underlying146 zW rfl .i64 .i64 n (by omega) (by omega);clear h0 HE HO HG hgd hchl ex R0 R1;go_upto_region 4 with fail;go_cut [7] (fun s7 wx=>∃G mb lb,s7=.pointer (some ⟨G,0,none⟩)∧Below w1.heap.size w1 wx∧Row wx G 160 [s.p.n,s.p.ins,s.p.outs,.slice ca s.p.cs.length cc,s.p.an,.slice sa s.p.st.length sc,s.p.rounds,s.tn,.slice ta n tc,.slice xa s.ex.length xc,.slice a2 ch.length c2,.map (some mb),.slice (some ⟨lb,0,none⟩) n n]∧MapV viewKey wx mb (fun _=>none) 0∧Row wx lb 36 (List.replicate n (.slice none 0 0))∧(w1.heap.size≤G∧w1.heap.size≤mb∧w1.heap.size≤lb)∧(G≠mb∧G≠lb∧mb≠lb))
 case first=>
  refine zF (fun w':World=>w'.cell? ⟨w.heap.size,0,none⟩=some (.int .i64 s.p.n)∧w'.cell? ⟨w.heap.size,1,none⟩=some (.int .i64 s.p.ins)∧w'.cell? ⟨w.heap.size,2,none⟩=some (.int .i64 s.p.outs)∧w'.cell? ⟨w.heap.size,3,none⟩=some (.slice ca s.p.cs.length cc)∧w'.cell? ⟨w.heap.size,4,none⟩=some (.int .i64 s.p.an)∧w'.cell? ⟨w.heap.size,5,none⟩=some (.slice sa s.p.st.length sc)∧w'.cell? ⟨w.heap.size,6,none⟩=some (.int .i64 s.p.rounds)∧w'.cell? ⟨w.heap.size,7,none⟩=some (.int .i64 s.tn)∧w'.cell? ⟨w.heap.size,8,none⟩=some (.slice ta n tc)∧w'.cell? ⟨w.heap.size,9,none⟩=some (.slice xa s.ex.length xc)∧w'.cell? ⟨w.heap.size+1,0,none⟩=some (.slice a2 ch.length c2)) (fun i=>false) (by kernel_rfl) ?_ (fun hHeld=>?_)
  ·exact KEEP.out _ (zb w1.heap.size w1 1)
  refine zt 0 hHeld ?_;refine zt 1 hHeld ?_;refine zt 3 hHeld ?_;refine zt 4 hHeld ?_;refine zt 5 hHeld ?_;refine zt 6 hHeld ?_;refine Qq 2 7 rfl rfl (by kernel_rfl) (fun K hK=>?_) (fun K hK=>?_)
  ·go_simp;refine zk hK (KEEP.out _ (zv (ze w1 (.map #[] 0)) 1)) (fun hHeld=>?_);clear hK K;refine zo 7 (fun K hK=>?_);go_simp;refine zk hK (KEEP.out _ (zv (zh (ze w1 (.map #[] 0)) (.cells (madeCells #[.slice none 0 0] n) 36)) 1)) (fun hHeld=>?_);clear hK K;refine zt 8 hHeld ?_;refine zo 9 (fun K hK=>?_);go_simp;refine zk hK (KEEP.out _ (zv (zh (zh (ze w1 (.map #[] 0)) (.cells (madeCells #[.slice none 0 0] n) 36)) _) 1)) (fun hHeld=>?_);clear hK K;refine zt 10 hHeld ?_;refine zz (by kernel_rfl) ?_ _;have R0G:=zi ((w1.alloc (.map #[] 0)).alloc (.cells (madeCells #[.slice none 0 0] n) 36)) [s.p.n,s.p.ins,s.p.outs,.slice ca s.p.cs.length cc,s.p.an,.slice sa s.p.st.length sc,s.p.rounds,s.tn,.slice ta n tc,.slice xa s.ex.length xc,.slice a2 ch.length c2,.map (some (w1.heap.size)),.slice (some ⟨w1.heap.size+1,0,none⟩) n n] 160;simp only[World.size_alloc]at R0G;have RGL:=(by have:=(Row.made (w1.alloc (.map #[] 0)) (.slice none 0 0) n 36).alloc (.cells #[s.p.n,s.p.ins,s.p.outs,.slice ca s.p.cs.length cc,s.p.an,.slice sa s.p.st.length sc,s.p.rounds,s.tn,.slice ta n tc,.slice xa s.ex.length xc,.slice a2 ch.length c2,.map (some (w1.heap.size)),.slice (some ⟨w1.heap.size+1,0,none⟩) n n] 160);rw[World.size_alloc]at this;exact this);have RGM:=((MapV.made viewKey w1).alloc (.cells (madeCells #[.slice none 0 0] n) 36)).alloc (.cells #[s.p.n,s.p.ins,s.p.outs,.slice ca s.p.cs.length cc,s.p.an,.slice sa s.p.st.length sc,s.p.rounds,s.tn,.slice ta n tc,.slice xa s.ex.length xc,.slice a2 ch.length c2,.map (some (w1.heap.size)),.slice (some ⟨w1.heap.size+1,0,none⟩) n n] 160);have eG:=zv (zh (zh (ze w1 (.map #[] 0)) (.cells (madeCells #[.slice none 0 0] n) 36)) (.cells #[s.p.n,s.p.ins,s.p.outs,.slice ca s.p.cs.length cc,s.p.an,.slice sa s.p.st.length sc,s.p.rounds,s.tn,.slice ta n tc,.slice xa s.ex.length xc,.slice a2 ch.length c2,.map (some (w1.heap.size)),.slice (some ⟨w1.heap.size+1,0,none⟩) n n] 160)) 1;have wy:=zhd (show∃G mb lb,Value.pointer (some ⟨w1.heap.size+1+1,0,none⟩)=.pointer (some ⟨G,0,none⟩)∧Below w1.heap.size w1 ((((w1.alloc (.map #[] 0)).alloc (.cells (madeCells #[.slice none 0 0] n) 36)).alloc (.cells #[s.p.n,s.p.ins,s.p.outs,.slice ca s.p.cs.length cc,s.p.an,.slice sa s.p.st.length sc,s.p.rounds,s.tn,.slice ta n tc,.slice xa s.ex.length xc,.slice a2 ch.length c2,.map (some (w1.heap.size)),.slice (some ⟨w1.heap.size+1,0,none⟩) n n] 160)).drewN 1)∧Row ((((w1.alloc (.map #[] 0)).alloc (.cells (madeCells #[.slice none 0 0] n) 36)).alloc (.cells #[s.p.n,s.p.ins,s.p.outs,.slice ca s.p.cs.length cc,s.p.an,.slice sa s.p.st.length sc,s.p.rounds,s.tn,.slice ta n tc,.slice xa s.ex.length xc,.slice a2 ch.length c2,.map (some (w1.heap.size)),.slice (some ⟨w1.heap.size+1,0,none⟩) n n] 160)).drewN 1) G 160 [s.p.n,s.p.ins,s.p.outs,.slice ca s.p.cs.length cc,s.p.an,.slice sa s.p.st.length sc,s.p.rounds,s.tn,.slice ta n tc,.slice xa s.ex.length xc,.slice a2 ch.length c2,.map (some mb),.slice (some ⟨lb,0,none⟩) n n]∧MapV viewKey ((((w1.alloc (.map #[] 0)).alloc (.cells (madeCells #[.slice none 0 0] n) 36)).alloc (.cells #[s.p.n,s.p.ins,s.p.outs,.slice ca s.p.cs.length cc,s.p.an,.slice sa s.p.st.length sc,s.p.rounds,s.tn,.slice ta n tc,.slice xa s.ex.length xc,.slice a2 ch.length c2,.map (some (w1.heap.size)),.slice (some ⟨w1.heap.size+1,0,none⟩) n n] 160)).drewN 1) mb (fun _=>none) 0∧Row ((((w1.alloc (.map #[] 0)).alloc (.cells (madeCells #[.slice none 0 0] n) 36)).alloc (.cells #[s.p.n,s.p.ins,s.p.outs,.slice ca s.p.cs.length cc,s.p.an,.slice sa s.p.st.length sc,s.p.rounds,s.tn,.slice ta n tc,.slice xa s.ex.length xc,.slice a2 ch.length c2,.map (some (w1.heap.size)),.slice (some ⟨w1.heap.size+1,0,none⟩) n n] 160)).drewN 1) lb 36 (List.replicate n (.slice none 0 0))∧(w1.heap.size≤G∧w1.heap.size≤mb∧w1.heap.size≤lb)∧(G≠mb∧G≠lb∧mb≠lb) from ⟨w1.heap.size+1+1,w1.heap.size,w1.heap.size+1,rfl,eG,R0G.ext (zb _ _ 1),RGM.ext (zb _ _ 1),RGL.ext (zb _ _ 1),⟨by omega,by omega,by omega⟩,⟨by omega,by omega,by omega⟩⟩);clear hHeld KEEP R0G RGL RGM eG;go_wp2_with fail;go_meet
   obtain ⟨G,mb,lb,h1,h2,h3,h4,h5,h6,h7⟩:=wy.out;exact ⟨G,mb,lb,h1,h2,h3,h4,h5,h6,h7⟩
  ·go_simp;refine zk hK (KEEP.out _ (zv (ze w1 (.cells (madeCells #[.slice none 0 0] n) 36)) 1)) (fun hHeld=>?_);clear hK K;refine zo 2 (fun K hK=>?_);go_simp;refine zk hK (KEEP.out _ (zv (zh (ze w1 (.cells (madeCells #[.slice none 0 0] n) 36)) (.map #[] 0)) 1)) (fun hHeld=>?_);clear hK K;refine zt 8 hHeld ?_;refine zo 9 (fun K hK=>?_);go_simp;refine zk hK (KEEP.out _ (zv (zh (zh (ze w1 (.cells (madeCells #[.slice none 0 0] n) 36)) (.map #[] 0)) _) 1)) (fun hHeld=>?_);clear hK K;refine zt 10 hHeld ?_;refine zz (by kernel_rfl) ?_ _;have R0G:=zi ((w1.alloc (.cells (madeCells #[.slice none 0 0] n) 36)).alloc (.map #[] 0)) [s.p.n,s.p.ins,s.p.outs,.slice ca s.p.cs.length cc,s.p.an,.slice sa s.p.st.length sc,s.p.rounds,s.tn,.slice ta n tc,.slice xa s.ex.length xc,.slice a2 ch.length c2,.map (some (w1.heap.size+1)),.slice (some ⟨w1.heap.size,0,none⟩) n n] 160;simp only[World.size_alloc]at R0G;have RGL:=((Row.made w1 (.slice none 0 0) n 36).alloc (.map #[] 0)).alloc (.cells #[s.p.n,s.p.ins,s.p.outs,.slice ca s.p.cs.length cc,s.p.an,.slice sa s.p.st.length sc,s.p.rounds,s.tn,.slice ta n tc,.slice xa s.ex.length xc,.slice a2 ch.length c2,.map (some (w1.heap.size+1)),.slice (some ⟨w1.heap.size,0,none⟩) n n] 160);have RGM:=(by have:=MapV.made viewKey (w1.alloc (.cells (madeCells #[.slice none 0 0] n) 36));rw[World.size_alloc]at this;exact this.alloc (.cells #[s.p.n,s.p.ins,s.p.outs,.slice ca s.p.cs.length cc,s.p.an,.slice sa s.p.st.length sc,s.p.rounds,s.tn,.slice ta n tc,.slice xa s.ex.length xc,.slice a2 ch.length c2,.map (some (w1.heap.size+1)),.slice (some ⟨w1.heap.size,0,none⟩) n n] 160));have eG:=zv (zh (zh (ze w1 (.cells (madeCells #[.slice none 0 0] n) 36)) (.map #[] 0)) (.cells #[s.p.n,s.p.ins,s.p.outs,.slice ca s.p.cs.length cc,s.p.an,.slice sa s.p.st.length sc,s.p.rounds,s.tn,.slice ta n tc,.slice xa s.ex.length xc,.slice a2 ch.length c2,.map (some (w1.heap.size+1)),.slice (some ⟨w1.heap.size,0,none⟩) n n] 160)) 1;have wy:=zhd (show∃G mb lb,Value.pointer (some ⟨w1.heap.size+1+1,0,none⟩)=.pointer (some ⟨G,0,none⟩)∧Below w1.heap.size w1 ((((w1.alloc (.cells (madeCells #[.slice none 0 0] n) 36)).alloc (.map #[] 0)).alloc (.cells #[s.p.n,s.p.ins,s.p.outs,.slice ca s.p.cs.length cc,s.p.an,.slice sa s.p.st.length sc,s.p.rounds,s.tn,.slice ta n tc,.slice xa s.ex.length xc,.slice a2 ch.length c2,.map (some (w1.heap.size+1)),.slice (some ⟨w1.heap.size,0,none⟩) n n] 160)).drewN 1)∧Row ((((w1.alloc (.cells (madeCells #[.slice none 0 0] n) 36)).alloc (.map #[] 0)).alloc (.cells #[s.p.n,s.p.ins,s.p.outs,.slice ca s.p.cs.length cc,s.p.an,.slice sa s.p.st.length sc,s.p.rounds,s.tn,.slice ta n tc,.slice xa s.ex.length xc,.slice a2 ch.length c2,.map (some (w1.heap.size+1)),.slice (some ⟨w1.heap.size,0,none⟩) n n] 160)).drewN 1) G 160 [s.p.n,s.p.ins,s.p.outs,.slice ca s.p.cs.length cc,s.p.an,.slice sa s.p.st.length sc,s.p.rounds,s.tn,.slice ta n tc,.slice xa s.ex.length xc,.slice a2 ch.length c2,.map (some mb),.slice (some ⟨lb,0,none⟩) n n]∧MapV viewKey ((((w1.alloc (.cells (madeCells #[.slice none 0 0] n) 36)).alloc (.map #[] 0)).alloc (.cells #[s.p.n,s.p.ins,s.p.outs,.slice ca s.p.cs.length cc,s.p.an,.slice sa s.p.st.length sc,s.p.rounds,s.tn,.slice ta n tc,.slice xa s.ex.length xc,.slice a2 ch.length c2,.map (some (w1.heap.size+1)),.slice (some ⟨w1.heap.size,0,none⟩) n n] 160)).drewN 1) mb (fun _=>none) 0∧Row ((((w1.alloc (.cells (madeCells #[.slice none 0 0] n) 36)).alloc (.map #[] 0)).alloc (.cells #[s.p.n,s.p.ins,s.p.outs,.slice ca s.p.cs.length cc,s.p.an,.slice sa s.p.st.length sc,s.p.rounds,s.tn,.slice ta n tc,.slice xa s.ex.length xc,.slice a2 ch.length c2,.map (some (w1.heap.size+1)),.slice (some ⟨w1.heap.size,0,none⟩) n n] 160)).drewN 1) lb 36 (List.replicate n (.slice none 0 0))∧(w1.heap.size≤G∧w1.heap.size≤mb∧w1.heap.size≤lb)∧(G≠mb∧G≠lb∧mb≠lb) from ⟨w1.heap.size+1+1,w1.heap.size+1,w1.heap.size,rfl,eG,R0G.ext (zb _ _ 1),RGM.ext (zb _ _ 1),RGL.ext (zb _ _ 1),⟨by omega,by omega,by omega⟩,⟨by omega,by omega,by omega⟩⟩);clear hHeld KEEP R0G RGL RGM eG;go_wp2_with fail;go_meet
   obtain ⟨G,mb,lb,h1,h2,h3,h4,h5,h6,h7⟩:=wy.out;exact ⟨G,mb,lb,h1,h2,h3,h4,h5,h6,h7⟩
 case rest=>
  obtain ⟨G,mb,lb,rfl,hbx,RG,HM,RLb,⟨hG,hmb,hlb⟩,⟨hne1,hne2,hne3⟩⟩:=hcut;clear KEEP hmm hmk d0;obtain ⟨wx,hwx⟩:∃wx:World,wx=wc:=⟨_,rfl⟩;rw[←hwx]at hbx RG HM RLb ⊢;clear hwx;have R0:=HR0.out.ext hbx;have hlbx:=RLb.lt;have hmbx:=HM.lt;have hGx:=RG.lt;have HOR0:Hid (OwnRows 36 3 w1.heap.size wx (.slice (some ⟨lb,0,none⟩) n n) (List.replicate n (.slice none 0 0)) (layU s.tab 0)):=zhd (by
   have hll:(layU s.tab 0).length=n:=by rw[zdQ,HNN.out]
   have hv0:∀j,nthV (List.replicate n (Value.slice none 0 0)) j=.slice none 0 0∨nthV (List.replicate n (Value.slice none 0 0)) j=undef:=fun j=>by
    by_cases h:j<n
    ·left;simp[nthV,h]
    ·right;simp[nthV,h]
   refine ⟨by rw[hll];have:=RLb.owns (base:=w1.heap.size) hlb (by simp[maxLen];omega);simpa using this,fun j hj=>?_,fun i j hi hj hij k hk=>?_,fun i hi k hk=>?_⟩
   ·have hjn:j<n:=by omega
    have e1:nthV (List.replicate n (Value.slice none 0 0)) j=.slice none 0 0:=by simp[nthV,hjn]
    have e2:nthL (layU s.tab 0) j=[]:=by rw[zf9];unfold nthL;rw[List.getD_eq_getElem?_getD,List.getElem?_replicate];split<;>rfl
    rw[e1,e2];exact World.ownsRow_nil _ _ _ _
   ·rcases hv0 i with h | h<;>rw[h]at hk<;>simp[Value.ownBlock,undef]at hk
   ·rcases hv0 i with h | h<;>rw[h]at hk<;>simp[Value.ownBlock,undef]at hk)
  have HOB0:Hid (∀j k,j<n→(nthV (List.replicate n (Value.slice none 0 0)) j).ownBlock=some k→wx.heap.size≤k):=zhd fun j k hj hk=>by
   have e1:nthV (List.replicate n (Value.slice none 0 0)) j=.slice none 0 0:=by simp[nthV,hj]
   rw[e1]at hk;simp[Value.ownBlock]at hk
  have HM0:Hid (MapV viewKey wx mb (numM (s.tab.take 0)) 0):=zhd (by
   have:(numM (s.tab.take 0))=fun _=>none:=by funext z;simp[numM]
   rw[this];exact HM)
  obtain ⟨N2,hN2⟩:=zn wx.heap.size;rw[←hN2]at HOB0 hlbx hmbx hGx;have hN2x:N2≤wx.heap.size:=by omega
  have HTBx:=zhd HGD.out.tab;have t8:=R0.zc 8 rfl;have l0:=R0.lt;have hwG:w.heap.size<w1.heap.size:=HR0.out.lt;clear HM hN2 RLb R0;go_wp2;clear t8 l0;go_loopw [8,9,11,32,45] (fun _ _ _ uv _ wr=>∃(u:Nat) (vs:List Value),u≤n∧uv=.int .i64 u∧Below w1.heap.size w1 wr∧N2≤wr.heap.size∧Row wr G 160 [s.p.n,s.p.ins,s.p.outs,.slice ca s.p.cs.length cc,s.p.an,.slice sa s.p.st.length sc,s.p.rounds,s.tn,.slice ta n tc,.slice xa s.ex.length xc,.slice a2 ch.length c2,.map (some mb),.slice (some ⟨lb,0,none⟩) n n]∧Hid (MapV viewKey wr mb (numM (s.tab.take (u))) (u))∧Hid (OwnRows 36 3 w1.heap.size wr (.slice (some ⟨lb,0,none⟩) n n) vs (layU s.tab u))∧Hid (∀j k,j<n→(nthV vs j).ownBlock=some k→N2≤k)) (fun _ _ _ uv _ _=>n - (intOf uv).toNat)
  case atStart=>exact ⟨0,_,Nat.zero_le _,rfl,hbx,hN2x,RG,HM0,HOR0,HOB0⟩
  case round=>
   clear hbx hN2x RG HM0 HOR0 HOB0;obtain ⟨u,vs,hu,rfl,hb,hNr,RG,HM,HOR,HOB⟩:=hrel;by_cases hlt:u<n
   case neg=>
    obtain rfl:u=n:=by omega
    have HS:Hid (ScnV (fun b=>(S b∧b<w.heap.size)∨w.heap.size≤b) wr G s ch):=zhd (by
     have hn':=HNN.out;have hex:=za HEX.out hb;refine ⟨⟨HGD.out,HCL.out,by omega⟩,.inr (by omega),ca,cc,sa,sc,ta,tc,xa,xc,a2,c2,some ⟨lb,0,none⟩,u,mb,by rw[←hn'];exact RG,.inr (by omega),?_,?_,(HCH.out.ext hex).mono fun b hb=>.inl hb,?_⟩
     ·have:=HM.out;rw[hn',List.take_length]at this;exact this
     ·have:=(HTBK.out.ext hex).mono (S':=fun b=>(S b∧b<w.heap.size)∨w.heap.size≤b) fun b hb=>.inl hb;rw[←hn'];exact this
     ·have h1:=HOR.out;rw[hn',zhl]at h1;have:=(h1.lists (zh4 (by omega))).mono (S':=fun b=>(S b∧b<w.heap.size)∨w.heap.size≤b) fun b hb=>.inr (by omega);rw[←hn']at this ⊢;exact this)
    have RE:=zhd (HO1.out wr G HS.out (by omega));have HEXF:=zhd (za HEX.out hb);clear HM HOR HOB HS hb hNr RG;go_wp2;go_ret2;exact .mk HEXF.out RE.out
   have hut:u<s.tab.length:=by have:=HNN.out;omega
   have hex:=za HEX.out hb;have vq:=HQ.out u hlt;have hnum:=(HTV.out.nums (k:=u) hut (by decide));have hy8:=Zr HTBx.out hut;have hVO:ViewOK (nthL s.tab u):=⟨hy8,zhJ HTV.out hut⟩;have hNotIn:nthL s.tab u∉s.tab.take u:=fun hm=>by
    obtain ⟨j,hj,hje⟩:=List.getElem_of_mem hm;rw[List.length_take]at hj;rw[List.getElem_take]at hje;have:=Zw HGD.out.nodup (i:=j) (j:=u) (by omega) hut (by rw[ya (by omega)];exact hje);omega
   have HTK:Hid (s.tab.take (u+1)=s.tab.take u++[nthL s.tab u]):=zhd (yW hut);have HTL:Hid ((s.tab.take u).length=u):=zhd (by rw[List.length_take];omega);have HPS:=zhd (fun i (hi:i<5) h=>zfG HTBx.out hut hi h);have HPH:=zhd (fun i x (hi:i<5) hx h=>zhS HTBx.out (u:=u) (i:=i) (x:=x) hut hi hx h);have HPF:=zhd (zgs HTBx.out u);have HP0:=zhd (zgd s.tab u);have HBN:Hid (∀i,i<5→nth (nthL s.tab u) (3+i)<0∨∃z:Nat,nth (nthL s.tab u) (3+i)=z∧z<u):=zhd fun i hi=>by
    obtain ⟨q,k,hV⟩:=HTBx.out.2 u hut;rcases hV.heard i hi with h1 | ⟨z,h1,h2,_⟩
    ·exact .inl (by omega)
    ·exact .inr ⟨z,h2,h1⟩
   obtain ⟨y,hy⟩:=zn (nthL s.tab u);rw[←hy]at hnum hVO hNotIn HTK HPS HPH HBN;have u0:=zm hnum.1 hex;have u1:=zm (hnum.2 1 (by decide)) hex;have u2:=zm (hnum.2 2 (by decide)) hex;have u3:=zm (hnum.2 3 (by decide)) hex;have u4:=zm (hnum.2 4 (by decide)) hex;have u5:=zm (hnum.2 5 (by decide)) hex;have u6:=zm (hnum.2 6 (by decide)) hex;have u7:=zm (hnum.2 7 (by decide)) hex;have bv:=World.block_lt_of_cell? _ _ u0;have HVO:=zhd hVO;have HKV:=zhd (xm hVO.1);have HNI:=zhd hNotIn;have eV:=ze wr (.cells #[nth y 0,nth y 1,nth y 2,nth y 3,nth y 4,nth y 5,nth y 6,nth y 7] 65);have RV:=zi wr [nth y 0,nth y 1,nth y 2,nth y 3,nth y 4,nth y 5,nth y 6,nth y 7] 65;have RGv:=RG.ext eV;have HMv:=zhd (HM.out.ext eV);have HORv:=zhd (HOR.out.ext eV);have hbv:Below w1.heap.size w1 (wr.alloc (.cells #[nth y 0,nth y 1,nth y 2,nth y 3,nth y 4,nth y 5,nth y 6,nth y 7] 65)):=hb.trans (eV.mono hb.size);have hmr:=HM.out.lt;have hGr:=RG.lt;have hlr:lb<wr.heap.size:=(HOR.out.row.lt lb rfl).2;have hvN:N2≤(wr.alloc (.cells #[nth y 0,nth y 1,nth y 2,nth y 3,nth y 4,nth y 5,nth y 6,nth y 7] 65)).heap.size:=by simp;omega
   clear hnum hVO hNotIn hy8 hy RG HM HOR hex hb;go_upto_region 8 with fail;obtain ⟨wv,hwv⟩:=zn (wr.alloc (.cells #[nth y 0,nth y 1,nth y 2,nth y 3,nth y 4,nth y 5,nth y 6,nth y 7] 65));obtain ⟨VB,hVB⟩:=zn wr.heap.size;rw[←hwv]at RV RGv HMv HORv hbv hvN ⊢;rw[←hVB]at RV hmr hGr hlr ⊢;have hNV:N2≤VB:=by omega
   have KEEP:Hid (∀w',Below wv.heap.size wv w'→(fun w':World=>w'.cell? ⟨G,11,none⟩=some (.map (some mb))∧w'.cell? ⟨VB,0,none⟩=some (.int .i64 (nth y 0))∧w'.cell? ⟨VB,1,none⟩=some (.int .i64 (nth y 1))∧w'.cell? ⟨VB,2,none⟩=some (.int .i64 (nth y 2))∧w'.cell? ⟨VB,3,none⟩=some (.int .i64 (nth y 3))∧w'.cell? ⟨VB,4,none⟩=some (.int .i64 (nth y 4))∧w'.cell? ⟨VB,5,none⟩=some (.int .i64 (nth y 5))∧w'.cell? ⟨VB,6,none⟩=some (.int .i64 (nth y 6))∧w'.cell? ⟨VB,7,none⟩=some (.int .i64 (nth y 7))) w'):=zhd fun w' hw=>⟨(RGv.ext hw).zc 11 rfl,(RV.ext hw).zc 0 rfl,(RV.ext hw).zc 1 rfl,(RV.ext hw).zc 2 rfl,(RV.ext hw).zc 3 rfl,(RV.ext hw).zc 4 rfl,(RV.ext hw).zc 5 rfl,(RV.ext hw).zc 6 rfl,(RV.ext hw).zc 7 rfl⟩;have HMP:=zhd (HMv.out.ext (zb wv.heap.size wv 1));have hu120:u<maxLen:=by unfold maxLen;omega
   have HUM:=zhd hu120;clear hwv hVB u0 u1 u2 u3 u4 u5 u6 u7 bv vq eV hNr hu120 wr;refine zF (fun w':World=>w'.cell? ⟨G,11,none⟩=some (.map (some mb))∧w'.cell? ⟨VB,0,none⟩=some (.int .i64 (nth y 0))∧w'.cell? ⟨VB,1,none⟩=some (.int .i64 (nth y 1))∧w'.cell? ⟨VB,2,none⟩=some (.int .i64 (nth y 2))∧w'.cell? ⟨VB,3,none⟩=some (.int .i64 (nth y 3))∧w'.cell? ⟨VB,4,none⟩=some (.int .i64 (nth y 4))∧w'.cell? ⟨VB,5,none⟩=some (.int .i64 (nth y 5))∧w'.cell? ⟨VB,6,none⟩=some (.int .i64 (nth y 6))∧w'.cell? ⟨VB,7,none⟩=some (.int .i64 (nth y 7))) (fun i=>i==6) (by kernel_rfl) ?_ (fun hHeld=>?_)
   ·exact KEEP.out _ (zb wv.heap.size wv 1)
   refine zt 0 hHeld ?_;refine zt 1 hHeld ?_;refine zt 2 hHeld ?_;refine zt 3 hHeld ?_;refine zt 4 hHeld ?_;refine zt 5 hHeld ?_;refine zo 6 (fun K hK=>?_)
   (refine Z6 rfl _ _ _ 134 (by rfl) 3 Tryz.underlying134 (by rfl) HMP.out HUM.out y (by rw[HKV.out];rfl) HVO.out (.int .i64 u) (by rfl) ?_;intro w5 hM5 hg5)
   refine hK.out _ _ (fun h=>by simp at h) (fun hHeld=>?_);clear hK K;try simp only[Act.put,zsa,zsz,zss]
   refine zz (by kernel_rfl) ?_ _;have hd1:=zb wv.heap.size wv 1;have RG5:=(RGv.ext hd1).grown hg5 (fun e=>hne1 (by injection e with e;exact e.symm));have RV5:=(RV.ext hd1).grown hg5 (fun e=>by injection e with e;omega);have HM5:Hid (MapV viewKey w5 mb (numM (s.tab.take (u+1))) (u+1)):=zhd (by
    have h1:=za1 HNI.out;rw[HTL.out]at h1;rw[h1]at hM5;have h2:addV (s.tab.take u) y=s.tab.take (u+1):=by unfold addV;rw[if_neg HNI.out,HTK.out]
    rw[h2]at hM5;have h3:numM (s.tab.take u) y=none:=by unfold numM;rw[if_neg HNI.out]
    rw[h3]at hM5;exact hM5)
   have HOR5:Hid (OwnRows 36 3 w1.heap.size w5 (.slice (some ⟨lb,0,none⟩) n n) vs (layP s.tab u 0)):=zhd (by
    rw[HP0.out];refine (HORv.out.ext hd1).agree (S:=fun b=>b≠mb) (.of_grown hg5 fun b hb e=>hb (by injection e with e;exact e.symm)) (fun k hk=>?_) (fun j hj k hk=>?_)
    ·have e:lb=k:=by simpa[Value.ownBlock] using hk
     omega
    ·have:=HOB.out j k (by rw[zdQ,←HNN.out]at hj;exact hj) hk;omega)
   have hb5:Below w1.heap.size w1 w5:=(hbv.trans (zb _ _ 1)).grown hg5 (hbv.trans (zb _ _ 1)).size (fun k hk=>by injection hk with hk;omega);have hN5:N2≤w5.heap.size:=by have:=hg5.size;have:wv.heap.size≤w5.heap.size:=this;omega
   clear hHeld KEEP HMP hM5 hg5 hd1 RGv RV HMv HORv hbv hvN;have v0:=RV5.zc 0 rfl;have v1:=RV5.zc 1 rfl;have v2:=RV5.zc 2 rfl;have v3:=RV5.zc 3 rfl;have v4:=RV5.zc 4 rfl;have v5:=RV5.zc 5 rfl;have v6:=RV5.zc 6 rfl;have v7:=RV5.zc 7 rfl;have lV:=RV5.lt;go_wp2;clear v0 v1 v2 v3 v4 v5 v6 v7 lV RV5;go_loopw [11,45] (fun _ iv wr=>∃(i:Nat) (vs:List Value),i≤5∧iv=.int .i64 i∧Below w1.heap.size w1 wr∧N2≤wr.heap.size∧Row wr G 160 [s.p.n,s.p.ins,s.p.outs,.slice ca s.p.cs.length cc,s.p.an,.slice sa s.p.st.length sc,s.p.rounds,s.tn,.slice ta n tc,.slice xa s.ex.length xc,.slice a2 ch.length c2,.map (some mb),.slice (some ⟨lb,0,none⟩) n n]∧Hid (MapV viewKey wr mb (numM (s.tab.take (u+1))) (u+1))∧Hid (OwnRows 36 3 w1.heap.size wr (.slice (some ⟨lb,0,none⟩) n n) vs (layP s.tab u i))∧Hid (∀j k,j<n→(nthV vs j).ownBlock=some k→N2≤k)) (fun _ iv _=>5 - (intOf iv).toNat)
   case atStart=>exact ⟨0,vs,Nat.zero_le _,rfl,hb5,hN5,RG5,HM5,HOR5,HOB⟩
   case round=>
    clear hb5 hN5 RG5 HM5 HOR5 HOB vs;obtain ⟨i,vs,hi,rfl,hb,hNr,RG,HM,HOR,HOB⟩:=hrel;by_cases hi5:i<5
    case neg=>
     obtain rfl:i=5:=by omega
     rw[HPF.out]at HOR;go_wp2;go_roundw
     case rel=>exact ⟨u+1,vs,by omega,by go_num,hb,hNr,RG,HM,HOR,HOB⟩
     case measure=>simp[intOf];omega
    have qi:∀W:World,(Instr.index 63 (.agg #[nth y 3,nth y 4,nth y 5,nth y 6,nth y 7]) (.int .i64 i)).run Tryz.prog W=.ok (.int .i64 (nth y (3+i))) W:=fun W=>YC (fun k=>nth y (3+k)) hi5 W;rcases HBN.out i hi5 with hx0 | ⟨z,hz,hzu⟩
    ·have d0:decide (0≤nth y (3+i))=false:=decide_eq_false (by omega);rw[←HPS.out i hi5 hx0]at HOR;clear hx0;go_wp2;go_roundw
     case rel=>exact ⟨i+1,vs,by omega,by go_num,hb,hNr,RG,HM,HOR,HOB⟩
     case measure=>simp[intOf];omega
    have hzn:z<n:=by omega
    have hzl:z<(layP s.tab u i).length:=by rw[Qi,←HNN.out];exact hzn
    have HNX:=zhd (HPH.out i z hi5 (by have:=HNN.out;omega) hz);rw[hz]at qi;obtain ⟨P,hP⟩:=zn (layP s.tab u i);have HPL:Hid (P.length=n):=zhd (by rw[hP,Qi,HNN.out]);have HSH:Hid ((nthL P z).length≤u+1):=zhd (by rw[hP];exact zeq _ _ _ (by have:=HNN.out;omega));rw[←hP]at HOR HNX hzl;have hrow:=HOR.out.rows z hzl;obtain ⟨ra,rl,rc,hrv⟩:∃ra rl rc,nthV vs z=.slice ra rl rc:=by
     rcases hrow.2 with ⟨e,_⟩ | ⟨g,cap,cur,e,_⟩
     ·exact ⟨_,_,_,e⟩
     ·exact ⟨_,_,_,e⟩
    have cz:wr.cell? ⟨lb,z,none⟩=some (.slice ra rl rc):=by rw[←hrv];exact HOR.out.cell (by rw[HPL.out]) hzl
    have HRV:=zhd hrv;have qz:=zie (g:=lb) (cp:=n) z hzn;have HOR':Hid (OwnRows 36 3 w1.heap.size (wr.alloc (.cells #[u] 3)).drew (.slice (some ⟨lb,0,none⟩) n n) vs P):=zhd (HOR.out.ext (zv (ze wr (.cells #[u] 3)) 1));have hG1:=RG.lt;have hl1:lb<wr.heap.size:=(HOR.out.row.lt lb rfl).2;have hm1:=HM.out.lt;have KEEP:Hid (∀w',Agree (fun b=>b=G∨b=lb) wr w'→(fun w':World=>w'.cell? ⟨G,12,none⟩=some (.slice (some ⟨lb,0,none⟩) n n)∧w'.cell? ⟨lb,z,none⟩=some (.slice ra rl rc)) w'):=zhd fun w' hw=>⟨(RG.agree hw (.inl rfl)).zc 12 rfl,YH cz hw (.inr rfl)⟩;have HBY:Hid (((nthL P z).length+1) * 8≤140737488355328∧(nthL P z).length+1≤9223372036854775807∧w1.heap.size≤(wr.alloc (.cells #[u] 3)).drew.heap.size):=zhd ⟨by have:=HSH.out;omega,by have:=HSH.out;omega,by have:=hb.size;rw[qZ];omega⟩;have HCB:Hid (∀j,j<1→(wr.alloc (.cells #[u] 3)).drew.cell? (adr (some ⟨wr.heap.size,0,none⟩) j)=some (([u]:List Value).getD j undef)):=zhd fun j hj=>by
     obtain rfl:j=0:=by omega
     exact ((zi wr [u] 3).ext (zb _ _ 1)).zc 0 rfl
    have HRNE:Hid (∀k,(nthV vs z).ownBlock=some k→k≠G∧k≠lb∧k≠mb∧N2≤k):=zhd fun k hk=>by
     have:=HOB.out z k hzn hk;exact ⟨by omega,by omega,by omega,this⟩
    clear hrow hrv hz hP cz;go_wp2;refine zF (fun w':World=>w'.cell? ⟨G,12,none⟩=some (.slice (some ⟨lb,0,none⟩) n n)∧w'.cell? ⟨lb,z,none⟩=some (.slice ra rl rc)) (fun i=>i==16) (by kernel_rfl) ?_ (fun hHeld=>?_)
    ·exact KEEP.out _ (zC _ wr 1)
    refine zt 0 hHeld ?_;refine zt 1 hHeld ?_;refine zt 2 hHeld ?_;refine zt 3 hHeld ?_;refine zt 4 hHeld ?_;refine zt 5 hHeld ?_;refine zt 6 hHeld ?_;refine zt 7 hHeld ?_;refine zt 8 hHeld ?_;refine zt 9 hHeld ?_;refine zt 10 hHeld ?_;refine zt 11 hHeld ?_;refine zt 12 hHeld ?_;refine zo 13 (fun K hK=>?_);go_simp;refine zk hK (KEEP.out _ (Agree.of_ext (S:=fun b=>b=G∨b=lb) (zv (ze wr (.cells #[u] 3)) 1))) (fun hHeld=>?_);clear hK K;refine zo 14 (fun K hK=>?_)
    (refine XF rfl (.tmp 61) (.tmp 63) 36 rfl 3 _ 8 Tryz.underlying36 zI rfl w1.heap.size (nthV vs z) (nthL P z).length ((nthL P z).map (Value.int .i64)) (by rw[HRV.out];rfl) (HOR'.out.rows z hzl) TT (some ⟨wr.heap.size,0,none⟩) 1 1 [u] rfl (.inr ⟨_,_,rfl,by rw[qZ];omega,trivial⟩) rfl HCB.out (by simp[Value.oneCell']) HBY.out.1 HBY.out.2.1 HBY.out.2.2 ?_;intro v7 w7 ho7 hb7 hag7 hv7;obtain ⟨a7,n7,c7,rfl⟩:=zfV ho7;have kx:=HOR'.out.keep (x:=z) (by rw[HPL.out]) hzl hag7;have k1:=kx.1;have k2:=kx.2;have hl7:lb<w7.heap.size:=(by have:=hb7.size;have e:=qZ wr (.cells #[u] 3);omega))
    refine zk hK (KEEP.out _ ((Agree.of_ext (S:=fun b=>b=G∨b=lb) (zv (ze wr (.cells #[u] 3)) 1)).trans (hag7 _ fun k hk hS=>by rcases hS with e | e;exact (HRNE.out k hk).1 e;exact (HRNE.out k hk).2.1 e))) (fun hHeld=>?_);clear hK K;refine zt 15 hHeld ?_;refine zo 16 (fun K hK=>?_);go_simp;refine hK.out _ _ (fun h=>by simp at h) (fun hHeld=>?_);clear hK K;try simp only[Act.put,zsa,zsz,zss]
    refine zz (by kernel_rfl) ?_ _;have hfin:=HOR'.out.app (x:=z) (by rw[HPL.out]) hzl ho7 hag7 hv7;rw[←HNX.out]at hfin;have hRGd:=RG.ext (zv (ze wr (.cells #[u] 3)) 1);have RG7:=(hRGd.agree (hag7 (fun b=>b=G) fun k hk e=>(HRNE.out k hk).1 e) rfl).grown (zj w7 lb z (.slice a7 n7 c7)) (fun e=>hne2 (by injection e with e;exact e.symm));have hMd:=HM.out.ext (zv (ze wr (.cells #[u] 3)) 1);have HM7:Hid (MapV viewKey (w7.setCell ⟨lb,z,none⟩ (.slice a7 n7 c7)) mb (numM (s.tab.take (u+1))) (u+1)):=zhd ((hMd.agree (hag7 (fun b=>b=mb) fun k hk e=>(HRNE.out k hk).2.2.1 e) rfl).grown (zj w7 lb z (.slice a7 n7 c7)) (fun e=>hne3 (by injection e with e;exact e.symm)));have HOB7:Hid (∀j k,j<n→(nthV (vs.set z (.slice a7 n7 c7)) j).ownBlock=some k→N2≤k):=zhd fun j k hj hk=>by
     have hvl:vs.length=n:=by rw[HOR.out.len,HPL.out]
     by_cases e:j=z
     ·subst e;have e1:nthV (vs.set j (.slice a7 n7 c7)) j=.slice a7 n7 c7:=by simp[nthV,hvl,hj]
      rw[e1]at hk;rcases hv7 k hk with h1 | h1
      ·exact HOB.out j k hj h1
      ·have e:=qZ wr (.cells #[u] 3);omega
     ·have e1:nthV (vs.set z (.slice a7 n7 c7)) j=nthV vs j:=by simp[nthV,List.getElem?_set_ne (fun e'=>e e'.symm)]
      rw[e1]at hk;exact HOB.out j k hj hk
    have hb7':Below w1.heap.size w1 (w7.setCell ⟨lb,z,none⟩ (.slice a7 n7 c7)):=((hb.trans ((zv (ze wr (.cells #[u] 3)) 1).mono hb.size)).trans hb7).setCell hlb _;have hN7:N2≤(w7.setCell ⟨lb,z,none⟩ (.slice a7 n7 c7)).heap.size:=by
     have h1:=hb7.size;have e:=qZ wr (.cells #[u] 3);have e2:(w7.setCell ⟨lb,z,none⟩ (.slice a7 n7 c7)).heap.size=w7.heap.size:=by simp
     omega
    have HF7:=zhd hfin;clear hHeld KEEP hfin hRGd hMd ho7 hag7 hv7 hb7 HRNE HBY HCB RG HM HOR HOB hb hNr HOR';go_wp2;go_roundw
    case rel=>exact ⟨i+1,_,by omega,by go_num,hb7',hN7,RG7,HM7,HF7,HOB7⟩
    case measure=>simp[intOf];omega
end Go.Proofs.YtiabbjolepnjkaaGreat
