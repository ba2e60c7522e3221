/- Part of the proof that the laws answer true for every input. -/
import Derived.Test.YtfjlhjkjjbiliaaGreatPXa33
set_option linter.unusedSimpArgs false
set_option linter.unnecessarySimpa false
set_option linter.unusedVariables false
set_option maxRecDepth 100000
set_option maxHeartbeats 40000000
namespace Go.Proofs.YtfjlhjkjjbiliaaGreat
open Go.RowKit
attribute [local go_sem ↓] Go.wp_at_zero Go.wp_at_succ
theorem qK {N K:Nat} {T:List (List Int)} (hT:TabOK N K T) {u:Nat} (hu:u<T.length):(nthL T u).length=8:=by
 obtain ⟨q,k,h⟩:=hT.2 u hu;exact h.len
theorem yP {N K:Nat} {T:List (List Int)} (hT:TabOK N K T) {u:Nat} (hu:u<T.length):nth (nthL T u) 0=(prcT T u:Int)∧prcT T u<5∧prcT T u<N:=by
 obtain ⟨q,k,h⟩:=hT.2 u hu
 have:=h.ql
 have:=hT.1
 rw[h.prc];exact ⟨h.q0,by omega,by omega⟩
theorem yi {N K:Nat} {T:List (List Int)} (hT:TabOK N K T) {u:Nat} (hu:u<T.length):nth (nthL T u) 1=(rndT T u:Int)∧rndT T u≤K:=by
 obtain ⟨q,k,h⟩:=hT.2 u hu
 rw[h.rnd];exact ⟨h.k0,h.kl⟩
theorem X7 {x:List Int} (h:x.length=8) {j:Nat} (hj:j<5) (b:Int):(x.map (Value.int .i64)).set (3+j) (.int .i64 b)=(x.set (3+j) b).map (Value.int .i64):=by rw[List.map_set]
theorem zdU {x:List Int} (h:x.length=8) (hw:∀y∈x,WF y) {j:Nat} {b:Int} (hb:WF b):ViewOK (x.set j b):=⟨by rw[List.length_set];exact h,fun y hy=>by
 rcases List.mem_or_eq_of_mem_set hy with h1 | h1
 ·exact hw y h1
 ·rw[h1];exact hb⟩
theorem zgn {S:Nat→Prop} {w:World} {v:Value} {T:List (List Int)} (h:Sl (kFlat 8) S w v T) {u:Nat} (hu:u<T.length):∀y∈nthL T u,WF y:=by
 obtain ⟨a,c,rfl,_⟩:=h.form
 exact (h.num hu).2.1
theorem zci {S:Nat→Prop} {w:World} {v:Value} {s:SysF} {u x:Nat} {b:Int} (h:SysV S w v s) (hg:GoodS s s.N s.K) (hu:u<s.tab.length) (hx':x<s.tab.length) (hb:WF b):
  Calls Tryz.prog 68 #[v,.int .i64 u,.int .i64 x,.int .i64 b] w (Post w fun _ r=>r=.int .i64 (repT s.tab u x b)):=by
 obtain ⟨vc,vs,vt,vx,rfl,hc,hs,ht,hx⟩:=h
 obtain ⟨ca,cc,rfl,_⟩:=hc.form
 obtain ⟨sa,sc,rfl,_⟩:=hs.form
 obtain ⟨ta,tc,rfl,_⟩:=ht.form
 obtain ⟨xa,xc,rfl,_⟩:=hx.form
 obtain ⟨_,_,hee,tad,_⟩:=ht.form2
 cases hee
 obtain ⟨i0,hi,hz⟩:=zE zJ
 have HQ:=zhd (zC Tryz.underlying30 hi hz tad)
 have HX:Hid (∀(W:World) (y:List Int),Below w.heap.size w W→ViewOK y→Calls Tryz.prog 87 #[.agg #[.int .i64 s.tn,.slice ta s.tab.length tc],.agg #[.int .i64 (nth y 0),.int .i64 (nth y 1),.int .i64 (nth y 2),.int .i64 (nth y 3),.int .i64 (nth y 4),.int .i64 (nth y 5),.int .i64 (nth y 6),.int .i64 (nth y 7)]] W (Post W fun _ r=>r=.int .i64 (if y∈s.tab then (idxV s.tab y:Nat) else -1))):=zhd fun W y hW hy=>ZS s.tn (ht.ext hW) hy
 have HTB:=zhd hg.tab
 obtain ⟨e0,p5,_⟩:=yP HTB.out hx'
 have l8:=qK HTB.out hu
 have HVO:=zhd (zdU l8 (zgn ht hu) (j:=3+prcT s.tab x) hb)
 have HR:Hid (repT s.tab u x b=(if (nthL s.tab u).set (3+prcT s.tab x) b∈s.tab then ((idxV s.tab ((nthL s.tab u).set (3+prcT s.tab x) b):Nat):Int) else -1)):=zhd rfl
 have HXX:=zhd (fun W hW=>HX.out W _ hW HVO.out)
 rw[←HR.out]at HXX
 obtain ⟨r,hr⟩:∃r,r=repT s.tab u x b:=⟨_,rfl⟩
 rw[←hr]at HXX ⊢
 obtain ⟨y,hy⟩:∃y,y=nthL s.tab u:=⟨_,rfl⟩
 obtain ⟨q,hq⟩:∃q,q=prcT s.tab x:=⟨_,rfl⟩
 rw[←hq]at e0 p5 HXX
 rw[←hy]at l8 HXX
 have ex:=ze w (.cells #[.int .i64 s.p.n,.int .i64 s.p.ins,.int .i64 s.p.outs,.slice ca s.p.cs.length cc,.int .i64 s.p.an,.slice sa s.p.st.length sc,.int .i64 s.p.rounds,.int .i64 s.tn,.slice ta s.tab.length tc,.slice xa s.ex.length xc] 35)
 have R0:=zh w [.int .i64 s.p.n,.int .i64 s.p.ins,.int .i64 s.p.outs,.slice ca s.p.cs.length cc,.int .i64 s.p.an,.slice sa s.p.st.length sc,.int .i64 s.p.rounds,.int .i64 s.tn,.slice ta s.tab.length tc,.slice xa s.ex.length xc] 35
 have HT:=zhd (ht.ext ex)
 have uq:=HQ.out u hu
 have xq:=HQ.out x hx'
 obtain ⟨u0,ur⟩:=HT.out.nums (k:=u) hu (by decide)
 have x0:=(HT.out.nums (k:=x) hx' (by decide)).1
 rw[e0]at x0
 rw[←hy]at u0 ur
 have u1:=ur 1 (by decide)
 have u2:=ur 2 (by decide)
 have u3:=ur 3 (by decide)
 have u4:=ur 4 (by decide)
 have u5:=ur 5 (by decide)
 have u6:=ur 6 (by decide)
 have u7:=ur 7 (by decide)
 have bu:=World.block_lt_of_cell? _ _ u0
 have bx:=World.block_lt_of_cell? _ _ x0
 have t0:=R0.zc 0 rfl
 have t1:=R0.zc 1 rfl
 have t2:=R0.zc 2 rfl
 have t3:=R0.zc 3 rfl
 have t4:=R0.zc 4 rfl
 have t5:=R0.zc 5 rfl
 have t6:=R0.zc 6 rfl
 have t7:=R0.zc 7 rfl
 have t8:=R0.zc 8 rfl
 have t9:=R0.zc 9 rfl
 have l0:=R0.lt
 have ex2:=zg ex (.cells #[.int .i64 (nth y 0),.int .i64 (nth y 1),.int .i64 (nth y 2),.int .i64 (nth y 3),.int .i64 (nth y 4),.int .i64 (nth y 5),.int .i64 (nth y 6),.int .i64 (nth y 7)] 72)
 have RX:Row ((w.alloc (.cells #[.int .i64 s.p.n,.int .i64 s.p.ins,.int .i64 s.p.outs,.slice ca s.p.cs.length cc,.int .i64 s.p.an,.slice sa s.p.st.length sc,.int .i64 s.p.rounds,.int .i64 s.tn,.slice ta s.tab.length tc,.slice xa s.ex.length xc] 35)).alloc (.cells #[.int .i64 (nth y 0),.int .i64 (nth y 1),.int .i64 (nth y 2),.int .i64 (nth y 3),.int .i64 (nth y 4),.int .i64 (nth y 5),.int .i64 (nth y 6),.int .i64 (nth y 7)] 72)) (w.heap.size+1) 72 (y.map (Value.int .i64)):=by
  have:=zh (w.alloc (.cells #[.int .i64 s.p.n,.int .i64 s.p.ins,.int .i64 s.p.outs,.slice ca s.p.cs.length cc,.int .i64 s.p.an,.slice sa s.p.st.length sc,.int .i64 s.p.rounds,.int .i64 s.tn,.slice ta s.tab.length tc,.slice xa s.ex.length xc] 35)) [.int .i64 (nth y 0),.int .i64 (nth y 1),.int .i64 (nth y 2),.int .i64 (nth y 3),.int .i64 (nth y 4),.int .i64 (nth y 5),.int .i64 (nth y 6),.int .i64 (nth y 7)] 72
  rw[World.size_alloc]at this
  rw[cells8 l8];exact this
 have xi:=yQ (w.heap.size+1) 3 p5
 have HL8:=zhd l8
 clear ur hc hs ht hx tad hi hz hr hy hq e0 hg HQ HT HX HR HVO HTB hb l8 hu hx'
 go_enter Tryz.func68,Tryz.ntmps68
 go_upto_region 2 with fail
 obtain ⟨wx,hwx⟩:∃wx,wx=(w.alloc (.cells #[.int .i64 s.p.n,.int .i64 s.p.ins,.int .i64 s.p.outs,.slice ca s.p.cs.length cc,.int .i64 s.p.an,.slice sa s.p.st.length sc,.int .i64 s.p.rounds,.int .i64 s.tn,.slice ta s.tab.length tc,.slice xa s.ex.length xc] 35)).alloc (.cells #[.int .i64 (nth y 0),.int .i64 (nth y 1),.int .i64 (nth y 2),.int .i64 (nth y 3),.int .i64 (nth y 4),.int .i64 (nth y 5),.int .i64 (nth y 6),.int .i64 (nth y 7)] 72):=⟨_,rfl⟩
 obtain ⟨B1,hB1⟩:∃B1,B1=w.heap.size+1:=⟨_,rfl⟩
 replace R0:=R0.alloc (.cells #[.int .i64 (nth y 0),.int .i64 (nth y 1),.int .i64 (nth y 2),.int .i64 (nth y 3),.int .i64 (nth y 4),.int .i64 (nth y 5),.int .i64 (nth y 6),.int .i64 (nth y 7)] 72)
 replace x0:=zj x0 (ze (w.alloc (.cells #[.int .i64 s.p.n,.int .i64 s.p.ins,.int .i64 s.p.outs,.slice ca s.p.cs.length cc,.int .i64 s.p.an,.slice sa s.p.st.length sc,.int .i64 s.p.rounds,.int .i64 s.tn,.slice ta s.tab.length tc,.slice xa s.ex.length xc] 35)) (.cells #[.int .i64 (nth y 0),.int .i64 (nth y 1),.int .i64 (nth y 2),.int .i64 (nth y 3),.int .i64 (nth y 4),.int .i64 (nth y 5),.int .i64 (nth y 6),.int .i64 (nth y 7)] 72))
 rw[←hB1]at RX xi ⊢
 rw[←hwx]at RX R0 ex2 x0 ⊢
 have hB1w:w.heap.size≤B1:=by omega
 have hB1n:some B1≠some w.heap.size:=by intro e;injection e;omega
 clear hwx hB1 u0 u1 u2 u3 u4 u5 u6 u7 bu bx t0 t1 t2 t3 t4 t5 t6 t7 t8 t9 l0 ex
 have R02:=R0.grown (zi wx B1 (3+q) (.int .i64 b)) hB1n
 have RX2:=RX.set (3+q) (.int .i64 b)
 rw[X7 HL8.out p5,cells8 (show (y.set (3+q) b).length=8 by rw[List.length_set];exact HL8.out)]at RX2
 have ex3:=ex2.setCell (p:=⟨B1,3+q,none⟩) hB1w (.int .i64 b)
 have cx:wx.cell? ⟨B1,3+q,none⟩=some (.int .i64 (nth y (3+q))):=RX.cell (by rw[List.getElem?_map,get?_nth (by rw[HL8.out];omega)];rfl)
 have fx:=RX.free (3+q)
 have lx:=RX.lt
 have bx:=World.block_lt_of_cell? _ _ x0
 have t0:=R0.zc 0 rfl
 have t1:=R0.zc 1 rfl
 have t2:=R0.zc 2 rfl
 have t3:=R0.zc 3 rfl
 have t4:=R0.zc 4 rfl
 have t5:=R0.zc 5 rfl
 have t6:=R0.zc 6 rfl
 have t7:=R0.zc 7 rfl
 have t8:=R0.zc 8 rfl
 have t9:=R0.zc 9 rfl
 have l0:=R0.lt
 clear R0 RX ex2
 go_upto_region 3 with fail
 clear t0 t1 t2 t3 t4 t5 t6 t7 t8 t9 l0 x0 cx fx lx bx xq xi uq
 obtain ⟨W2,hW2⟩:∃W2,W2=wx.setCell ⟨B1,3+q,none⟩ (.int .i64 b):=⟨_,rfl⟩
 rw[←hW2]at R02 RX2 ex3 ⊢
 clear hW2
 have t0:=R02.zc 0 rfl
 have t1:=R02.zc 1 rfl
 have t2:=R02.zc 2 rfl
 have t3:=R02.zc 3 rfl
 have t4:=R02.zc 4 rfl
 have t5:=R02.zc 5 rfl
 have t6:=R02.zc 6 rfl
 have t7:=R02.zc 7 rfl
 have t8:=R02.zc 8 rfl
 have t9:=R02.zc 9 rfl
 have l0:=R02.lt
 have z0:=RX2.zc 0 rfl
 have z1:=RX2.zc 1 rfl
 have z2:=RX2.zc 2 rfl
 have z3:=RX2.zc 3 rfl
 have z4:=RX2.zc 4 rfl
 have z5:=RX2.zc 5 rfl
 have z6:=RX2.zc 6 rfl
 have z7:=RX2.zc 7 rfl
 have lz:=RX2.lt
 have HE:=zhd ex3
 have KX:=zhd (HXX.out W2 ex3)
 clear R02 RX2 ex3 HXX
 go_wp2_with fail
 refine KX.out.mono ?_
 rintro _ W3 ⟨_,rfl,hb3,rfl⟩
 have HE3:=zhd (zb HE.out hb3)
 clear t0 t1 t2 t3 t4 t5 t6 t7 t8 t9 l0 z0 z1 z2 z3 z4 z5 z6 z7 lz hb3
 go_wp2
 go_ret
 exact .mk HE3.out rfl
theorem XF {S:Nat→Prop} {w:World} {v:Value} {s:SysF} {u x:Nat} (h:SysV S w v s) (hg:GoodS s s.N s.K) (hu:u<s.tab.length) (hx':x<s.tab.length):
  Calls Tryz.prog 67 #[v,.int .i64 u,.int .i64 x] w (Post w fun _ r=>r=.bool (hrsB s.tab u x)):=by
 obtain ⟨vc,vs,vt,vx,rfl,hc,hs,ht,hx⟩:=h
 obtain ⟨ca,cc,rfl,_⟩:=hc.form
 obtain ⟨sa,sc,rfl,_⟩:=hs.form
 obtain ⟨ta,tc,rfl,_⟩:=ht.form
 obtain ⟨xa,xc,rfl,_⟩:=hx.form
 obtain ⟨_,_,hee,tad,_⟩:=ht.form2
 cases hee
 obtain ⟨i0,hi,hz⟩:=zE zJ
 have HQ:=zhd (zC Tryz.underlying30 hi hz tad)
 have HTB:=zhd hg.tab
 obtain ⟨e0,p5,_⟩:=yP HTB.out hx'
 obtain ⟨e1,_⟩:=yi HTB.out hx'
 obtain ⟨e2,_⟩:=yi HTB.out hu
 have hK:=hg.K6
 have l8:=qK HTB.out hu
 obtain ⟨f1,f2⟩:=yi HTB.out hu
 obtain ⟨g1,g2⟩:=yi HTB.out hx'
 have HR:Hid (hrsB s.tab u x=(decide (rndT s.tab u=rndT s.tab x+1)&&decide (nth (nthL s.tab u) (3+prcT s.tab x)=(x:Int)))):=zhd (by
  cases hh:hrsB s.tab u x with
  | true=>rw[decide_eq_true (YH HTB.out hu hx' hh),decide_eq_true (xh.1 hh)];rfl
  | false=>
   have:¬nth (nthL s.tab u) (3+prcT s.tab x)=(x:Int):=fun e=>by rw[xh.2 e]at hh;cases hh
   rw[decide_eq_false this,Bool.and_false])
 obtain ⟨r,hr⟩:∃r,r=hrsB s.tab u x:=⟨_,rfl⟩
 rw[←hr]at HR ⊢
 obtain ⟨y,hy⟩:∃y,y=nthL s.tab u:=⟨_,rfl⟩
 obtain ⟨q,hq⟩:∃q,q=prcT s.tab x:=⟨_,rfl⟩
 obtain ⟨ru,hru⟩:∃ru,ru=rndT s.tab u:=⟨_,rfl⟩
 obtain ⟨rx,hrx⟩:∃rx,rx=rndT s.tab x:=⟨_,rfl⟩
 rw[←hq,←hy,←hru,←hrx]at HR
 rw[←hq]at e0 p5
 rw[←hrx]at e1 g2
 rw[←hru]at e2 f2
 rw[←hy]at l8 e2
 have ex:=ze w (.cells #[.int .i64 s.p.n,.int .i64 s.p.ins,.int .i64 s.p.outs,.slice ca s.p.cs.length cc,.int .i64 s.p.an,.slice sa s.p.st.length sc,.int .i64 s.p.rounds,.int .i64 s.tn,.slice ta s.tab.length tc,.slice xa s.ex.length xc] 35)
 have R0:=zh w [.int .i64 s.p.n,.int .i64 s.p.ins,.int .i64 s.p.outs,.slice ca s.p.cs.length cc,.int .i64 s.p.an,.slice sa s.p.st.length sc,.int .i64 s.p.rounds,.int .i64 s.tn,.slice ta s.tab.length tc,.slice xa s.ex.length xc] 35
 have HT:=zhd (ht.ext ex)
 have uq:=HQ.out u hu
 have xq:=HQ.out x hx'
 obtain ⟨u0,ur⟩:=HT.out.nums (k:=u) hu (by decide)
 obtain ⟨x0,xr⟩:=HT.out.nums (k:=x) hx' (by decide)
 have x1:=xr 1 (by decide)
 rw[e0]at x0
 rw[e1]at x1
 rw[←hy]at u0 ur
 have u1:=ur 1 (by decide)
 have u2:=ur 2 (by decide)
 have u3:=ur 3 (by decide)
 have u4:=ur 4 (by decide)
 have u5:=ur 5 (by decide)
 have u6:=ur 6 (by decide)
 have u7:=ur 7 (by decide)
 have bu:=World.block_lt_of_cell? _ _ u0
 have bx:=World.block_lt_of_cell? _ _ x0
 have t0:=R0.zc 0 rfl
 have t1:=R0.zc 1 rfl
 have t2:=R0.zc 2 rfl
 have t3:=R0.zc 3 rfl
 have t4:=R0.zc 4 rfl
 have t5:=R0.zc 5 rfl
 have t6:=R0.zc 6 rfl
 have t7:=R0.zc 7 rfl
 have t8:=R0.zc 8 rfl
 have t9:=R0.zc 9 rfl
 have l0:=R0.lt
 have ex2:=zg ex (.cells #[.int .i64 (nth y 0),.int .i64 (nth y 1),.int .i64 (nth y 2),.int .i64 (nth y 3),.int .i64 (nth y 4),.int .i64 (nth y 5),.int .i64 (nth y 6),.int .i64 (nth y 7)] 72)
 have RX:Row ((w.alloc (.cells #[.int .i64 s.p.n,.int .i64 s.p.ins,.int .i64 s.p.outs,.slice ca s.p.cs.length cc,.int .i64 s.p.an,.slice sa s.p.st.length sc,.int .i64 s.p.rounds,.int .i64 s.tn,.slice ta s.tab.length tc,.slice xa s.ex.length xc] 35)).alloc (.cells #[.int .i64 (nth y 0),.int .i64 (nth y 1),.int .i64 (nth y 2),.int .i64 (nth y 3),.int .i64 (nth y 4),.int .i64 (nth y 5),.int .i64 (nth y 6),.int .i64 (nth y 7)] 72)) (w.heap.size+1) 72 (y.map (Value.int .i64)):=by
  have:=zh (w.alloc (.cells #[.int .i64 s.p.n,.int .i64 s.p.ins,.int .i64 s.p.outs,.slice ca s.p.cs.length cc,.int .i64 s.p.an,.slice sa s.p.st.length sc,.int .i64 s.p.rounds,.int .i64 s.tn,.slice ta s.tab.length tc,.slice xa s.ex.length xc] 35)) [.int .i64 (nth y 0),.int .i64 (nth y 1),.int .i64 (nth y 2),.int .i64 (nth y 3),.int .i64 (nth y 4),.int .i64 (nth y 5),.int .i64 (nth y 6),.int .i64 (nth y 7)] 72
  rw[World.size_alloc]at this
  rw[cells8 l8];exact this
 have xi:=yQ (w.heap.size+1) 3 p5
 have HL8:=zhd l8
 have HE2:=zhd e2
 have hw1:ru≤6:=by omega
 have hw2:rx≤6:=by omega
 clear ur xr hc hs ht hx tad hi hz hr hy hq hru hrx e0 e1 hg HQ HTB l8 hu hx' hK f1 f2 g1 g2 e2
 go_enter Tryz.func67,Tryz.ntmps67
 go_upto_region 2 with fail
 obtain ⟨wx,hwx⟩:∃wx,wx=(w.alloc (.cells #[.int .i64 s.p.n,.int .i64 s.p.ins,.int .i64 s.p.outs,.slice ca s.p.cs.length cc,.int .i64 s.p.an,.slice sa s.p.st.length sc,.int .i64 s.p.rounds,.int .i64 s.tn,.slice ta s.tab.length tc,.slice xa s.ex.length xc] 35)).alloc (.cells #[.int .i64 (nth y 0),.int .i64 (nth y 1),.int .i64 (nth y 2),.int .i64 (nth y 3),.int .i64 (nth y 4),.int .i64 (nth y 5),.int .i64 (nth y 6),.int .i64 (nth y 7)] 72):=⟨_,rfl⟩
 obtain ⟨B1,hB1⟩:∃B1,B1=w.heap.size+1:=⟨_,rfl⟩
 replace R0:=R0.alloc (.cells #[.int .i64 (nth y 0),.int .i64 (nth y 1),.int .i64 (nth y 2),.int .i64 (nth y 3),.int .i64 (nth y 4),.int .i64 (nth y 5),.int .i64 (nth y 6),.int .i64 (nth y 7)] 72)
 replace x0:=zj x0 (ze (w.alloc (.cells #[.int .i64 s.p.n,.int .i64 s.p.ins,.int .i64 s.p.outs,.slice ca s.p.cs.length cc,.int .i64 s.p.an,.slice sa s.p.st.length sc,.int .i64 s.p.rounds,.int .i64 s.tn,.slice ta s.tab.length tc,.slice xa s.ex.length xc] 35)) (.cells #[.int .i64 (nth y 0),.int .i64 (nth y 1),.int .i64 (nth y 2),.int .i64 (nth y 3),.int .i64 (nth y 4),.int .i64 (nth y 5),.int .i64 (nth y 6),.int .i64 (nth y 7)] 72))
 replace x1:=zj x1 (ze (w.alloc (.cells #[.int .i64 s.p.n,.int .i64 s.p.ins,.int .i64 s.p.outs,.slice ca s.p.cs.length cc,.int .i64 s.p.an,.slice sa s.p.st.length sc,.int .i64 s.p.rounds,.int .i64 s.tn,.slice ta s.tab.length tc,.slice xa s.ex.length xc] 35)) (.cells #[.int .i64 (nth y 0),.int .i64 (nth y 1),.int .i64 (nth y 2),.int .i64 (nth y 3),.int .i64 (nth y 4),.int .i64 (nth y 5),.int .i64 (nth y 6),.int .i64 (nth y 7)] 72))
 rw[←hB1]at RX xi ⊢
 rw[←hwx]at RX R0 ex2 x0 x1 ⊢
 clear hwx hB1 u0 u1 u2 u3 u4 u5 u6 u7 bu bx t0 t1 t2 t3 t4 t5 t6 t7 t8 t9 l0 ex uq
 have HE:=zhd (fun n=>zb ex2 (zf wx.heap.size wx n))
 have y1:wx.cell? ⟨B1,1,none⟩=some (.int .i64 (ru:Int)):=by rw[←HE2.out];exact RX.cell (by rw[List.getElem?_map,get?_nth (by rw[HL8.out];omega)];rfl)
 have y2:wx.cell? ⟨B1,3+q,none⟩=some (.int .i64 (nth y (3+q))):=RX.cell (by rw[List.getElem?_map,get?_nth (by rw[HL8.out];omega)];rfl)
 have lx:=RX.lt
 have bx:=World.block_lt_of_cell? _ _ x0
 have t0:=R0.zc 0 rfl
 have t1:=R0.zc 1 rfl
 have t2:=R0.zc 2 rfl
 have t3:=R0.zc 3 rfl
 have t4:=R0.zc 4 rfl
 have t5:=R0.zc 5 rfl
 have t6:=R0.zc 6 rfl
 have t7:=R0.zc 7 rfl
 have t8:=R0.zc 8 rfl
 have t9:=R0.zc 9 rfl
 have l0:=R0.lt
 clear R0 RX ex2
 obtain ⟨z,hzz⟩:∃z,z=nth y (3+q):=⟨_,rfl⟩
 rw[←hzz]at y2 HR
 clear hzz
 by_cases d:ru=rx+1
 ·have d1:((ru:Int)==(rx:Int)+1)=true:=by rw[beq_iff_eq];omega
  have HR1:Hid (r=(z==(x:Int))):=zhd (by rw[HR.out,decide_eq_true d,Bool.true_and];exact (by rw[Bool.eq_iff_iff];simp))
  clear HR d
  go_quiet (fail)
  go_wp2
  go_ret
  exact .mk (HE.out _) (zr HR1.out.symm)
 ·have d1:((ru:Int)==(rx:Int)+1)=false:=by rw[beq_eq_false_iff_ne];omega
  have HR1:Hid (r=false):=zhd (by rw[HR.out,decide_eq_false d,Bool.false_and])
  clear HR d
  go_quiet (fail)
  go_wp2
  go_ret
  exact .mk (HE.out _) (zr HR1.out.symm)
theorem zao {S S2:Nat→Prop} {w:World} {v vch:Value} {s:SysF} {ch:List Int} {u x:Nat} (h:SysV S w v s) (hg:GoodS s s.N s.K) (h2:Ints S2 w vch ch) (hl:ch.length=s.tab.length) (hu:u<s.tab.length) (hx':x<s.tab.length):
  Calls Tryz.prog 57 #[v,.agg #[vch],.int .i64 u,.int .i64 x] w (Post w fun _ r=>r=.bool (alkB s.tab ch u x)):=by
 obtain ⟨vc,vs,vt,vx,rfl,hc,hs,ht,hx⟩:=h
 obtain ⟨ca,cc,rfl,_⟩:=hc.form
 obtain ⟨sa,sc,rfl,_⟩:=hs.form
 obtain ⟨ta,tc,rfl,_⟩:=ht.form
 obtain ⟨xa,xc,rfl,_⟩:=hx.form
 obtain ⟨_,_,hee,tad,_⟩:=ht.form2
 cases hee
 obtain ⟨i0,hi,hz⟩:=zE zJ
 obtain ⟨a2,c2,rfl,_⟩:=h2.form
 have uq:=zC Tryz.underlying30 hi hz tad u hu
 have xq:=zC Tryz.underlying30 hi hz tad x hx'
 have rq:=h2.idx (k:=u) (by omega)
 have sq:=h2.idx (k:=x) (by omega)
 have rc:=h2.cellN (k:=u) (by omega)
 have sc':=h2.cellN (k:=x) (by omega)
 have HTB:=zhd hg.tab
 obtain ⟨e0,_⟩:=yP HTB.out hx'
 obtain ⟨e1,_⟩:=yi HTB.out hx'
 obtain ⟨f0,_⟩:=yP HTB.out hu
 obtain ⟨f1,_⟩:=yi HTB.out hu
 have lu:=qK HTB.out hu
 have lx:=qK HTB.out hx'
 have HR:Hid (alkB s.tab ch u x=((decide (prcT s.tab u=prcT s.tab x)&&decide (rndT s.tab u=rndT s.tab x))&&decide (nth ch u=nth ch x))):=zhd rfl
 obtain ⟨r,hr⟩:∃r,r=alkB s.tab ch u x:=⟨_,rfl⟩
 rw[←hr]at HR ⊢
 have hcu:=(ht.nums (k:=u) hu (by decide))
 have hcx:=(ht.nums (k:=x) hx' (by decide))
 obtain ⟨yu,hyu⟩:∃y,y=nthL s.tab u:=⟨_,rfl⟩
 obtain ⟨yx,hyx⟩:∃y,y=nthL s.tab x:=⟨_,rfl⟩
 rw[←hyu]at hcu f0 f1 lu
 rw[←hyx]at hcx e0 e1 lx
 obtain ⟨pu,hpu⟩:∃p,p=prcT s.tab u:=⟨_,rfl⟩
 obtain ⟨px,hpx⟩:∃p,p=prcT s.tab x:=⟨_,rfl⟩
 obtain ⟨ru,hru⟩:∃ru,ru=rndT s.tab u:=⟨_,rfl⟩
 obtain ⟨rx,hrx⟩:∃rx,rx=rndT s.tab x:=⟨_,rfl⟩
 obtain ⟨cu,hcuu⟩:∃c,c=nth ch u:=⟨_,rfl⟩
 obtain ⟨cx,hcxx⟩:∃c,c=nth ch x:=⟨_,rfl⟩
 rw[←hpu,←hpx,←hru,←hrx,←hcuu,←hcxx]at HR
 rw[←hpu]at f0
 rw[←hpx]at e0
 rw[←hru]at f1
 rw[←hrx]at e1
 rw[←hcuu]at rc
 rw[←hcxx]at sc'
 have HU0:=zhd f0
 have HU1:=zhd f1
 have HX0:=zhd e0
 have HX1:=zhd e1
 have ex:=zg (ze w (.cells #[.int .i64 s.p.n,.int .i64 s.p.ins,.int .i64 s.p.outs,.slice ca s.p.cs.length cc,.int .i64 s.p.an,.slice sa s.p.st.length sc,.int .i64 s.p.rounds,.int .i64 s.tn,.slice ta s.tab.length tc,.slice xa s.ex.length xc] 35)) (.cells #[.slice a2 ch.length c2] 38)
 have R0:=(zh w [.int .i64 s.p.n,.int .i64 s.p.ins,.int .i64 s.p.outs,.slice ca s.p.cs.length cc,.int .i64 s.p.an,.slice sa s.p.st.length sc,.int .i64 s.p.rounds,.int .i64 s.tn,.slice ta s.tab.length tc,.slice xa s.ex.length xc] 35).alloc (.cells #[.slice a2 ch.length c2] 38)
 have R1:=zh (w.alloc (.cells #[.int .i64 s.p.n,.int .i64 s.p.ins,.int .i64 s.p.outs,.slice ca s.p.cs.length cc,.int .i64 s.p.an,.slice sa s.p.st.length sc,.int .i64 s.p.rounds,.int .i64 s.tn,.slice ta s.tab.length tc,.slice xa s.ex.length xc] 35)) [.slice a2 ch.length c2] 38
 rw[World.size_alloc]at R1
 clear hc hs ht hx tad hi hz hr hyu hyx hpu hpx hru hrx hcuu hcxx f0 f1 e0 e1 hg HTB h2 hl hu hx'
 go_enter Tryz.func57,Tryz.ntmps57
 go_upto_region 1 with fail
 obtain ⟨W0,hW0⟩:∃W0,W0=(w.alloc (.cells #[.int .i64 s.p.n,.int .i64 s.p.ins,.int .i64 s.p.outs,.slice ca s.p.cs.length cc,.int .i64 s.p.an,.slice sa s.p.st.length sc,.int .i64 s.p.rounds,.int .i64 s.tn,.slice ta s.tab.length tc,.slice xa s.ex.length xc] 35)).alloc (.cells #[.slice a2 ch.length c2] 38):=⟨_,rfl⟩
 obtain ⟨B0,hB0⟩:∃B0,B0=w.heap.size:=⟨_,rfl⟩
 obtain ⟨B1,hB1⟩:∃B1,B1=w.heap.size+1:=⟨_,rfl⟩
 rw[←hW0]at R0 R1 ex ⊢
 rw[←hB1]at R1 ⊢
 rw[←hB0]at R0 ⊢
 have HEX:=zhd ex
 have KEEP:Hid (∀w',Below W0.heap.size W0 w'→(fun w':World=>w'.cell? ⟨B0,7,none⟩=some (.int .i64 s.tn)∧w'.cell? ⟨B0,8,none⟩=some (.slice ta s.tab.length tc)∧w'.cell? (adr ta (u * 8))=some (.int .i64 (nth yu 0))∧w'.cell? ⟨(adr ta (u * 8)).block,(adr ta (u * 8)).off+1,none⟩=some (.int .i64 (nth yu 1))∧w'.cell? ⟨(adr ta (u * 8)).block,(adr ta (u * 8)).off+2,none⟩=some (.int .i64 (nth yu 2))∧w'.cell? ⟨(adr ta (u * 8)).block,(adr ta (u * 8)).off+3,none⟩=some (.int .i64 (nth yu 3))∧w'.cell? ⟨(adr ta (u * 8)).block,(adr ta (u * 8)).off+4,none⟩=some (.int .i64 (nth yu 4))∧w'.cell? ⟨(adr ta (u * 8)).block,(adr ta (u * 8)).off+5,none⟩=some (.int .i64 (nth yu 5))∧w'.cell? ⟨(adr ta (u * 8)).block,(adr ta (u * 8)).off+6,none⟩=some (.int .i64 (nth yu 6))∧w'.cell? ⟨(adr ta (u * 8)).block,(adr ta (u * 8)).off+7,none⟩=some (.int .i64 (nth yu 7))∧w'.cell? (adr ta (x * 8))=some (.int .i64 (nth yx 0))∧w'.cell? ⟨(adr ta (x * 8)).block,(adr ta (x * 8)).off+1,none⟩=some (.int .i64 (nth yx 1))∧w'.cell? ⟨(adr ta (x * 8)).block,(adr ta (x * 8)).off+2,none⟩=some (.int .i64 (nth yx 2))∧w'.cell? ⟨(adr ta (x * 8)).block,(adr ta (x * 8)).off+3,none⟩=some (.int .i64 (nth yx 3))∧w'.cell? ⟨(adr ta (x * 8)).block,(adr ta (x * 8)).off+4,none⟩=some (.int .i64 (nth yx 4))∧w'.cell? ⟨(adr ta (x * 8)).block,(adr ta (x * 8)).off+5,none⟩=some (.int .i64 (nth yx 5))∧w'.cell? ⟨(adr ta (x * 8)).block,(adr ta (x * 8)).off+6,none⟩=some (.int .i64 (nth yx 6))∧w'.cell? ⟨(adr ta (x * 8)).block,(adr ta (x * 8)).off+7,none⟩=some (.int .i64 (nth yx 7))) w'):=zhd fun w' hw=>⟨(R0.ext hw).zc 7 rfl,(R0.ext hw).zc 8 rfl,zj hcu.1 (zb HEX.out hw),zj (hcu.2 1 (by decide)) (zb HEX.out hw),zj (hcu.2 2 (by decide)) (zb HEX.out hw),zj (hcu.2 3 (by decide)) (zb HEX.out hw),zj (hcu.2 4 (by decide)) (zb HEX.out hw),zj (hcu.2 5 (by decide)) (zb HEX.out hw),zj (hcu.2 6 (by decide)) (zb HEX.out hw),zj (hcu.2 7 (by decide)) (zb HEX.out hw),zj hcx.1 (zb HEX.out hw),zj (hcx.2 1 (by decide)) (zb HEX.out hw),zj (hcx.2 2 (by decide)) (zb HEX.out hw),zj (hcx.2 3 (by decide)) (zb HEX.out hw),zj (hcx.2 4 (by decide)) (zb HEX.out hw),zj (hcx.2 5 (by decide)) (zb HEX.out hw),zj (hcx.2 6 (by decide)) (zb HEX.out hw),zj (hcx.2 7 (by decide)) (zb HEX.out hw)⟩
 have HUX:=zhd (And.intro lu lx)
 have RC:Hid (∀w',Below W0.heap.size W0 w'→w'.cell? ⟨B1,0,none⟩=some (.slice a2 ch.length c2)∧w'.cell? (adr a2 u)=some (.int .i64 cu)∧w'.cell? (adr a2 x)=some (.int .i64 cx)):=zhd fun w' hw=>⟨(R1.ext hw).zc 0 rfl,zj rc (zb HEX.out hw),zj sc' (zb HEX.out hw)⟩
 clear R0 R1 ex hcu hcx rc sc' lu lx hW0 hB0 hB1
 refine zF (fun w':World=>w'.cell? ⟨B0,7,none⟩=some (.int .i64 s.tn)∧w'.cell? ⟨B0,8,none⟩=some (.slice ta s.tab.length tc)∧w'.cell? (adr ta (u * 8))=some (.int .i64 (nth yu 0))∧w'.cell? ⟨(adr ta (u * 8)).block,(adr ta (u * 8)).off+1,none⟩=some (.int .i64 (nth yu 1))∧w'.cell? ⟨(adr ta (u * 8)).block,(adr ta (u * 8)).off+2,none⟩=some (.int .i64 (nth yu 2))∧w'.cell? ⟨(adr ta (u * 8)).block,(adr ta (u * 8)).off+3,none⟩=some (.int .i64 (nth yu 3))∧w'.cell? ⟨(adr ta (u * 8)).block,(adr ta (u * 8)).off+4,none⟩=some (.int .i64 (nth yu 4))∧w'.cell? ⟨(adr ta (u * 8)).block,(adr ta (u * 8)).off+5,none⟩=some (.int .i64 (nth yu 5))∧w'.cell? ⟨(adr ta (u * 8)).block,(adr ta (u * 8)).off+6,none⟩=some (.int .i64 (nth yu 6))∧w'.cell? ⟨(adr ta (u * 8)).block,(adr ta (u * 8)).off+7,none⟩=some (.int .i64 (nth yu 7))∧w'.cell? (adr ta (x * 8))=some (.int .i64 (nth yx 0))∧w'.cell? ⟨(adr ta (x * 8)).block,(adr ta (x * 8)).off+1,none⟩=some (.int .i64 (nth yx 1))∧w'.cell? ⟨(adr ta (x * 8)).block,(adr ta (x * 8)).off+2,none⟩=some (.int .i64 (nth yx 2))∧w'.cell? ⟨(adr ta (x * 8)).block,(adr ta (x * 8)).off+3,none⟩=some (.int .i64 (nth yx 3))∧w'.cell? ⟨(adr ta (x * 8)).block,(adr ta (x * 8)).off+4,none⟩=some (.int .i64 (nth yx 4))∧w'.cell? ⟨(adr ta (x * 8)).block,(adr ta (x * 8)).off+5,none⟩=some (.int .i64 (nth yx 5))∧w'.cell? ⟨(adr ta (x * 8)).block,(adr ta (x * 8)).off+6,none⟩=some (.int .i64 (nth yx 6))∧w'.cell? ⟨(adr ta (x * 8)).block,(adr ta (x * 8)).off+7,none⟩=some (.int .i64 (nth yx 7))) (fun i=>false) (by kernel_rfl) ?_ (fun hHeld=>?_)
 ·exact KEEP.out _ (zf W0.heap.size W0 1)
 refine za 0 (v:=?_) rfl (by kernel_rfl) (fun _ _ _ h=>h) (by rfl) ?hy0 hHeld ?r0
 case hy0=>(intro w hSw;(try dsimp only at hSw);go_simp;try with_reducible rfl)
 try simp only[Act.put,zsa,zsz,zss]
 refine za 1 (v:=?_) rfl (by kernel_rfl) (fun _ _ _ h=>h) (by rfl) ?hy1 hHeld ?r1
 case hy1=>(intro w hSw;(try dsimp only at hSw);go_simp;try with_reducible rfl)
 try simp only[Act.put,zsa,zsz,zss]
 refine za 2 (v:=?_) rfl (by kernel_rfl) (fun _ _ _ h=>h) (by rfl) ?hy2 hHeld ?r2
 case hy2=>(intro w hSw;(try dsimp only at hSw);go_simp;try with_reducible rfl)
 try simp only[Act.put,zsa,zsz,zss]
 refine za 3 (v:=?_) rfl (by kernel_rfl) (fun _ _ _ h=>h) (by rfl) ?hy3 hHeld ?r3
 case hy3=>(intro w hSw;(try dsimp only at hSw);go_simp;try with_reducible rfl)
 try simp only[Act.put,zsa,zsz,zss]
 refine za 4 (v:=?_) rfl (by kernel_rfl) (fun _ _ _ h=>h) (by rfl) ?hy4 hHeld ?r4
 case hy4=>(intro w hSw;(try dsimp only at hSw);go_simp;try with_reducible rfl)
 try simp only[Act.put,zsa,zsz,zss]
 refine za 5 (v:=?_) rfl (by kernel_rfl) (fun _ _ _ h=>h) (by rfl) ?hy5 hHeld ?r5
 case hy5=>(intro w hSw;(try dsimp only at hSw);go_simp;try with_reducible rfl)
 try simp only[Act.put,zsa,zsz,zss]
 refine za 6 (v:=?_) rfl (by kernel_rfl) (fun _ _ _ h=>h) (by rfl) ?hy6 hHeld ?r6
 case hy6=>(intro w hSw;(try dsimp only at hSw);go_simp;try with_reducible rfl)
 try simp only[Act.put,zsa,zsz,zss]
 refine za 7 (v:=?_) rfl (by kernel_rfl) (fun _ _ _ h=>h) (by rfl) ?hy7 hHeld ?r7
 case hy7=>(intro w hSw;(try dsimp only at hSw);go_simp;try with_reducible rfl)
 try simp only[Act.put,zsa,zsz,zss]
 refine za 8 (v:=?_) rfl (by kernel_rfl) (fun _ _ _ h=>h) (by rfl) ?hy8 hHeld ?r8
 case hy8=>(intro w hSw;(try dsimp only at hSw);go_simp;try with_reducible rfl)
 try simp only[Act.put,zsa,zsz,zss]
 refine za 9 (v:=?_) rfl (by kernel_rfl) (fun _ _ _ h=>h) (by rfl) ?hy9 hHeld ?r9
 case hy9=>(intro w hSw;(try dsimp only at hSw);go_simp;try with_reducible rfl)
 try simp only[Act.put,zsa,zsz,zss]
 refine za 10 (v:=?_) rfl (by kernel_rfl) (fun _ _ _ h=>h) (by rfl) ?hy10 hHeld ?r10
 case hy10=>(intro w hSw;(try dsimp only at hSw);go_simp;try with_reducible rfl)
 try simp only[Act.put,zsa,zsz,zss]
 refine za 11 (v:=?_) rfl (by kernel_rfl) (fun _ _ _ h=>h) (by rfl) ?hy11 hHeld ?r11
 case hy11=>(intro w hSw;(try dsimp only at hSw);go_simp;try with_reducible rfl)
 try simp only[Act.put,zsa,zsz,zss]
 refine Z5 12 13 rfl rfl (by kernel_rfl) (fun K hK=>?_) (fun K hK=>?_)
 ·go_simp
  refine hK.out _ _ (fun _=>KEEP.out _ (zm (ze W0 (.cells #[.int .i64 0,.int .i64 0,.int .i64 0,.int .i64 0,.int .i64 0,.int .i64 0,.int .i64 0,.int .i64 0] 72)) 1)) (fun hHeld=>?_);replace hHeld:=hHeld rfl
  clear hK K
  try simp only[Act.put,zsa,zsz,zss]
  refine zn 13 rfl (by kernel_rfl) (fun K hK=>?_)
  go_simp
  refine hK.out _ _ (fun _=>KEEP.out _ (zm (zg (ze W0 (.cells #[.int .i64 0,.int .i64 0,.int .i64 0,.int .i64 0,.int .i64 0,.int .i64 0,.int .i64 0,.int .i64 0] 72)) (.cells #[.int .i64 0,.int .i64 0,.int .i64 0,.int .i64 0,.int .i64 0,.int .i64 0,.int .i64 0,.int .i64 0] 72)) 1)) (fun hHeld=>?_);replace hHeld:=hHeld rfl
  clear hK K
  try simp only[Act.put,zsa,zsz,zss]
  refine zn 14 rfl (by kernel_rfl) (fun K hK=>?_)
  go_simp
  refine hK.out _ _ (fun _=>KEEP.out _ (zm (zg (ze W0 (.cells #[.int .i64 (nth yu 0),.int .i64 (nth yu 1),.int .i64 (nth yu 2),.int .i64 (nth yu 3),.int .i64 (nth yu 4),.int .i64 (nth yu 5),.int .i64 (nth yu 6),.int .i64 (nth yu 7)] 72)) (.cells #[.int .i64 0,.int .i64 0,.int .i64 0,.int .i64 0,.int .i64 0,.int .i64 0,.int .i64 0,.int .i64 0] 72)) 1)) (fun hHeld=>?_);replace hHeld:=hHeld rfl
  clear hK K
  try simp only[Act.put,zsa,zsz,zss]
  refine zn 15 rfl (by kernel_rfl) (fun K hK=>?_)
  go_simp
  refine hK.out _ _ (fun _=>KEEP.out _ (zm (zg (ze W0 (.cells #[.int .i64 (nth yu 0),.int .i64 (nth yu 1),.int .i64 (nth yu 2),.int .i64 (nth yu 3),.int .i64 (nth yu 4),.int .i64 (nth yu 5),.int .i64 (nth yu 6),.int .i64 (nth yu 7)] 72)) (.cells #[.int .i64 (nth yx 0),.int .i64 (nth yx 1),.int .i64 (nth yx 2),.int .i64 (nth yx 3),.int .i64 (nth yx 4),.int .i64 (nth yx 5),.int .i64 (nth yx 6),.int .i64 (nth yx 7)] 72)) 1)) (fun hHeld=>?_);replace hHeld:=hHeld rfl
  clear hK K
  try simp only[Act.put,zsa,zsz,zss]
  refine zy (by kernel_rfl) ?_ _
  have Ru0:=(zh W0 [.int .i64 (nth yu 0),.int .i64 (nth yu 1),.int .i64 (nth yu 2),.int .i64 (nth yu 3),.int .i64 (nth yu 4),.int .i64 (nth yu 5),.int .i64 (nth yu 6),.int .i64 (nth yu 7)] 72).alloc (.cells #[.int .i64 (nth yx 0),.int .i64 (nth yx 1),.int .i64 (nth yx 2),.int .i64 (nth yx 3),.int .i64 (nth yx 4),.int .i64 (nth yx 5),.int .i64 (nth yx 6),.int .i64 (nth yx 7)] 72)
  have Rx0:=zh (W0.alloc (.cells #[.int .i64 (nth yu 0),.int .i64 (nth yu 1),.int .i64 (nth yu 2),.int .i64 (nth yu 3),.int .i64 (nth yu 4),.int .i64 (nth yu 5),.int .i64 (nth yu 6),.int .i64 (nth yu 7)] 72)) [.int .i64 (nth yx 0),.int .i64 (nth yx 1),.int .i64 (nth yx 2),.int .i64 (nth yx 3),.int .i64 (nth yx 4),.int .i64 (nth yx 5),.int .i64 (nth yx 6),.int .i64 (nth yx 7)] 72
  rw[World.size_alloc]at Rx0
  have e2:=zm (zg (ze W0 (.cells #[.int .i64 (nth yu 0),.int .i64 (nth yu 1),.int .i64 (nth yu 2),.int .i64 (nth yu 3),.int .i64 (nth yu 4),.int .i64 (nth yu 5),.int .i64 (nth yu 6),.int .i64 (nth yu 7)] 72)) (.cells #[.int .i64 (nth yx 0),.int .i64 (nth yx 1),.int .i64 (nth yx 2),.int .i64 (nth yx 3),.int .i64 (nth yx 4),.int .i64 (nth yx 5),.int .i64 (nth yx 6),.int .i64 (nth yx 7)] 72)) 1
  have Rf:=Ru0.ext (zf _ _ 1)
  have Rg:=Rx0.ext (zf _ _ 1)
  obtain ⟨W2,hW2⟩:∃W2,W2=((W0.alloc (.cells #[.int .i64 (nth yu 0),.int .i64 (nth yu 1),.int .i64 (nth yu 2),.int .i64 (nth yu 3),.int .i64 (nth yu 4),.int .i64 (nth yu 5),.int .i64 (nth yu 6),.int .i64 (nth yu 7)] 72)).alloc (.cells #[.int .i64 (nth yx 0),.int .i64 (nth yx 1),.int .i64 (nth yx 2),.int .i64 (nth yx 3),.int .i64 (nth yx 4),.int .i64 (nth yx 5),.int .i64 (nth yx 6),.int .i64 (nth yx 7)] 72)).drewN 1:=⟨_,rfl⟩
  have hW3:((W0.alloc (.cells #[.int .i64 (nth yu 0),.int .i64 (nth yu 1),.int .i64 (nth yu 2),.int .i64 (nth yu 3),.int .i64 (nth yu 4),.int .i64 (nth yu 5),.int .i64 (nth yu 6),.int .i64 (nth yu 7)] 72)).alloc (.cells #[.int .i64 (nth yx 0),.int .i64 (nth yx 1),.int .i64 (nth yx 2),.int .i64 (nth yx 3),.int .i64 (nth yx 4),.int .i64 (nth yx 5),.int .i64 (nth yx 6),.int .i64 (nth yx 7)] 72)).drew=W2:=hW2.symm
  rw[←hW2]at e2 Rf Rg
  rw[hW3]
  have u0:=Rf.zc 0 rfl
  have u1:=Rf.zc 1 rfl
  have x0:=Rg.zc 0 rfl
  have x1:=Rg.zc 1 rfl
  have lf:=Rf.lt
  have lg:=Rg.lt
  clear hHeld hW2 hW3 Rf Rg Ru0 Rx0
  rw[HU0.out]at u0
  rw[HU1.out]at u1
  rw[HX0.out]at x0
  rw[HX1.out]at x1
  obtain ⟨r0,c0,c1⟩:=RC.out W2 e2
  have HE:=zhd (fun n=>zb (zb HEX.out e2) (zf W2.heap.size W2 n))
  clear RC KEEP e2 HEX
  by_cases hp:pu=px
  case neg=>
   have d1:((pu:Int)==(px:Int))=false:=by rw[beq_eq_false_iff_ne];omega
   have HRR:Hid (r=false):=zhd (by rw[HR.out,decide_eq_false hp];rfl)
   clear HR
   go_wp2
   go_quiet (fail)
   go_wp2
   go_ret
   exact .mk (HE.out _) (zr HRR.out.symm)
  have d1:((pu:Int)==(px:Int))=true:=by rw[hp];simp
  by_cases hrr:ru=rx
  case neg=>
   have d2:((ru:Int)==(rx:Int))=false:=by rw[beq_eq_false_iff_ne];omega
   have HR':Hid (r=false):=zhd (by rw[HR.out,decide_eq_true hp,decide_eq_false hrr];rfl)
   clear hp
   clear HR
   go_wp2
   go_quiet (fail)
   go_wp2
   go_ret
   exact .mk (HE.out _) (zr HR'.out.symm)
  have d2:((ru:Int)==(rx:Int))=true:=by rw[hrr];simp
  have HR':Hid (r=(cu==cx)):=zhd (by rw[HR.out,decide_eq_true hp,decide_eq_true hrr,Bool.true_and,Bool.true_and];exact (by rw[Bool.eq_iff_iff];simp))
  clear HR hp hrr
  go_wp2
  go_quiet (fail)
  go_wp2
  go_ret
  exact .mk (HE.out _) (zr HR'.out.symm)
 ·go_simp
  refine hK.out _ _ (fun _=>KEEP.out _ (zm (ze W0 (.cells #[.int .i64 0,.int .i64 0,.int .i64 0,.int .i64 0,.int .i64 0,.int .i64 0,.int .i64 0,.int .i64 0] 72)) 1)) (fun hHeld=>?_);replace hHeld:=hHeld rfl
  clear hK K
  try simp only[Act.put,zsa,zsz,zss]
  refine zn 12 rfl (by kernel_rfl) (fun K hK=>?_)
  go_simp
  refine hK.out _ _ (fun _=>KEEP.out _ (zm (zg (ze W0 (.cells #[.int .i64 0,.int .i64 0,.int .i64 0,.int .i64 0,.int .i64 0,.int .i64 0,.int .i64 0,.int .i64 0] 72)) (.cells #[.int .i64 0,.int .i64 0,.int .i64 0,.int .i64 0,.int .i64 0,.int .i64 0,.int .i64 0,.int .i64 0] 72)) 1)) (fun hHeld=>?_);replace hHeld:=hHeld rfl
  clear hK K
  try simp only[Act.put,zsa,zsz,zss]
  refine zn 14 rfl (by kernel_rfl) (fun K hK=>?_)
  go_simp
  refine hK.out _ _ (fun _=>KEEP.out _ (zm (zg (ze W0 (.cells #[.int .i64 0,.int .i64 0,.int .i64 0,.int .i64 0,.int .i64 0,.int .i64 0,.int .i64 0,.int .i64 0] 72)) (.cells #[.int .i64 (nth yu 0),.int .i64 (nth yu 1),.int .i64 (nth yu 2),.int .i64 (nth yu 3),.int .i64 (nth yu 4),.int .i64 (nth yu 5),.int .i64 (nth yu 6),.int .i64 (nth yu 7)] 72)) 1)) (fun hHeld=>?_);replace hHeld:=hHeld rfl
  clear hK K
  try simp only[Act.put,zsa,zsz,zss]
  refine zn 15 rfl (by kernel_rfl) (fun K hK=>?_)
  go_simp
  refine hK.out _ _ (fun _=>KEEP.out _ (zm (zg (ze W0 (.cells #[.int .i64 (nth yx 0),.int .i64 (nth yx 1),.int .i64 (nth yx 2),.int .i64 (nth yx 3),.int .i64 (nth yx 4),.int .i64 (nth yx 5),.int .i64 (nth yx 6),.int .i64 (nth yx 7)] 72)) (.cells #[.int .i64 (nth yu 0),.int .i64 (nth yu 1),.int .i64 (nth yu 2),.int .i64 (nth yu 3),.int .i64 (nth yu 4),.int .i64 (nth yu 5),.int .i64 (nth yu 6),.int .i64 (nth yu 7)] 72)) 1)) (fun hHeld=>?_);replace hHeld:=hHeld rfl
  clear hK K
  try simp only[Act.put,zsa,zsz,zss]
  refine zy (by kernel_rfl) ?_ _
  have Rx0:=(zh W0 [.int .i64 (nth yx 0),.int .i64 (nth yx 1),.int .i64 (nth yx 2),.int .i64 (nth yx 3),.int .i64 (nth yx 4),.int .i64 (nth yx 5),.int .i64 (nth yx 6),.int .i64 (nth yx 7)] 72).alloc (.cells #[.int .i64 (nth yu 0),.int .i64 (nth yu 1),.int .i64 (nth yu 2),.int .i64 (nth yu 3),.int .i64 (nth yu 4),.int .i64 (nth yu 5),.int .i64 (nth yu 6),.int .i64 (nth yu 7)] 72)
  have Ru0:=zh (W0.alloc (.cells #[.int .i64 (nth yx 0),.int .i64 (nth yx 1),.int .i64 (nth yx 2),.int .i64 (nth yx 3),.int .i64 (nth yx 4),.int .i64 (nth yx 5),.int .i64 (nth yx 6),.int .i64 (nth yx 7)] 72)) [.int .i64 (nth yu 0),.int .i64 (nth yu 1),.int .i64 (nth yu 2),.int .i64 (nth yu 3),.int .i64 (nth yu 4),.int .i64 (nth yu 5),.int .i64 (nth yu 6),.int .i64 (nth yu 7)] 72
  rw[World.size_alloc]at Ru0
  have e2:=zm (zg (ze W0 (.cells #[.int .i64 (nth yx 0),.int .i64 (nth yx 1),.int .i64 (nth yx 2),.int .i64 (nth yx 3),.int .i64 (nth yx 4),.int .i64 (nth yx 5),.int .i64 (nth yx 6),.int .i64 (nth yx 7)] 72)) (.cells #[.int .i64 (nth yu 0),.int .i64 (nth yu 1),.int .i64 (nth yu 2),.int .i64 (nth yu 3),.int .i64 (nth yu 4),.int .i64 (nth yu 5),.int .i64 (nth yu 6),.int .i64 (nth yu 7)] 72)) 1
  have Rf:=Rx0.ext (zf _ _ 1)
  have Rg:=Ru0.ext (zf _ _ 1)
  obtain ⟨W2,hW2⟩:∃W2,W2=((W0.alloc (.cells #[.int .i64 (nth yx 0),.int .i64 (nth yx 1),.int .i64 (nth yx 2),.int .i64 (nth yx 3),.int .i64 (nth yx 4),.int .i64 (nth yx 5),.int .i64 (nth yx 6),.int .i64 (nth yx 7)] 72)).alloc (.cells #[.int .i64 (nth yu 0),.int .i64 (nth yu 1),.int .i64 (nth yu 2),.int .i64 (nth yu 3),.int .i64 (nth yu 4),.int .i64 (nth yu 5),.int .i64 (nth yu 6),.int .i64 (nth yu 7)] 72)).drewN 1:=⟨_,rfl⟩
  have hW3:((W0.alloc (.cells #[.int .i64 (nth yx 0),.int .i64 (nth yx 1),.int .i64 (nth yx 2),.int .i64 (nth yx 3),.int .i64 (nth yx 4),.int .i64 (nth yx 5),.int .i64 (nth yx 6),.int .i64 (nth yx 7)] 72)).alloc (.cells #[.int .i64 (nth yu 0),.int .i64 (nth yu 1),.int .i64 (nth yu 2),.int .i64 (nth yu 3),.int .i64 (nth yu 4),.int .i64 (nth yu 5),.int .i64 (nth yu 6),.int .i64 (nth yu 7)] 72)).drew=W2:=hW2.symm
  rw[←hW2]at e2 Rf Rg
  rw[hW3]
  have x0:=Rf.zc 0 rfl
  have x1:=Rf.zc 1 rfl
  have u0:=Rg.zc 0 rfl
  have u1:=Rg.zc 1 rfl
  have lf:=Rf.lt
  have lg:=Rg.lt
  clear hHeld hW2 hW3 Rf Rg Rx0 Ru0
  rw[HU0.out]at u0
  rw[HU1.out]at u1
  rw[HX0.out]at x0
  rw[HX1.out]at x1
  obtain ⟨r0,c0,c1⟩:=RC.out W2 e2
  have HE:=zhd (fun n=>zb (zb HEX.out e2) (zf W2.heap.size W2 n))
  clear RC KEEP e2 HEX
  by_cases hp:pu=px
  case neg=>
   have d1:((pu:Int)==(px:Int))=false:=by rw[beq_eq_false_iff_ne];omega
   have HRR:Hid (r=false):=zhd (by rw[HR.out,decide_eq_false hp];rfl)
   clear HR
   go_wp2
   go_quiet (fail)
   go_wp2
   go_ret
   exact .mk (HE.out _) (zr HRR.out.symm)
  have d1:((pu:Int)==(px:Int))=true:=by rw[hp];simp
  by_cases hrr:ru=rx
  case neg=>
   have d2:((ru:Int)==(rx:Int))=false:=by rw[beq_eq_false_iff_ne];omega
   have HR':Hid (r=false):=zhd (by rw[HR.out,decide_eq_true hp,decide_eq_false hrr];rfl)
   clear hp
   clear HR
   go_wp2
   go_quiet (fail)
   go_wp2
   go_ret
   exact .mk (HE.out _) (zr HR'.out.symm)
  have d2:((ru:Int)==(rx:Int))=true:=by rw[hrr];simp
  have HR':Hid (r=(cu==cx)):=zhd (by rw[HR.out,decide_eq_true hp,decide_eq_true hrr,Bool.true_and,Bool.true_and];exact (by rw[Bool.eq_iff_iff];simp))
  clear HR hp hrr
  go_wp2
  go_quiet (fail)
  go_wp2
  go_ret
  exact .mk (HE.out _) (zr HR'.out.symm)
end Go.Proofs.YtfjlhjkjjbiliaaGreat
