/- Part of the proof that the laws answer true for every input. -/
import Derived.Test.YtjpakklplhabdaaGreatPGaA37
set_option linter.unusedSimpArgs false
set_option linter.unnecessarySimpa false
set_option linter.unusedVariables false
set_option maxRecDepth 100000
set_option maxHeartbeats 40000000
namespace Go.Proofs.YtjpakklplhabdaaGreat
open Go.RowKit
attribute [local go_sem ↓] Go.wp_at_zero Go.wp_at_succ
theorem Xi {S:Nat→Prop} {w:World} {a:Option Addr} {n cap:Nat} (h:Ad S w a n cap):∀k:Nat,k<n→∀W:World,(Instr.indexAt 22 (.slice a n cap) (.int .i64 k)).run Tryz.prog W=.ok (.pointer (some (adr a (k * 3)))) W:=by
 have hic:=congrArg (Option.map (·.2.1)) yw
 cases hi:Tryz.prog.info? 62 with
 | none=>rw[hi]at hic;cases hic
 | some t=>
  rw[hi]at hic
  exact fun k hk W=>zJ Tryz.underlying22 hi (by simpa using hic) h k hk W
theorem ProbOK.vecs {p:ProbD} {N c f:Nat} (h:ProbOK p N) (hc:c<p.cs.length):∀v∈vecsOf (nthC p.cs c) f,v.length=N∧∀x∈v,0≤x∧x<p.outs:=by
 have h1:=(xM ((zU h.t).2.2.2.2.2.2.2.2 c hc)).2
 unfold vecsE at h1
 split at h1
 ·cases h1
 rename_i hlen
 by_cases h2:firstE (outE p.n p.outs (nthC p.cs c).out) (nthC p.cs c).out.length=0
 case neg=>rw[if_neg h2]at h1;exact absurd h1 h2
 rw[if_pos h2]at h1
 have hout:∀v∈(nthC p.cs c).out,v.length=N∧∀x∈v,0≤x∧x<p.outs:=fun v hv=>by
  obtain ⟨j,hj,e⟩:=List.getElem_of_mem hv
  have h3:=zX.1 h2 j hj
  unfold outE at h3
  by_cases h4:vecE (nthL (nthC p.cs c).out j) p.n p.outs=0
  ·have h5:=QB h4
   rw[zM hj,e,h.n]at h5
   exact ⟨by omega,h5.2⟩
  ·rw[if_neg h4]at h3;exact absurd h3 h4
 intro v hv
 unfold vecsOf at hv
 split at hv
 ·obtain ⟨j,hj,e⟩:=List.getElem_of_mem hv
  have h3:=zX.1 h1 j hj
  unfold calmE at h3
  by_cases h4:nthL (nthC p.cs c).calm j∈(nthC p.cs c).out
  ·rw[zM hj,e]at h4;exact hout v h4
  ·rw[decide_eq_false h4]at h3;simp at h3
 ·exact hout v hv
theorem zcH {p:ProbD} {N c f q:Nat} {outs:List Int} (h:ProbOK p N) (hc:c<p.cs.length) (hq:q<N) (hf:f.testBit q=false) (hx:nth outs q<0):mayB (nthC p.cs c) f outs=false:=by
 unfold mayB
 rw[List.any_eq_false]
 intro v hv
 obtain ⟨h1,h2⟩:=h.vecs hc v hv
 have h3:agrB f outs v=false:=zar (by omega:q<v.length) (by
  have:=(h2 (nth v q) (Zv (by omega))).1
  rw[hf,decide_eq_false (by omega)];rfl)
 rw[h3];simp
def okE (s:SysF) (ch:List Int) (e:Nat):Bool:=mayB (nthC s.p.cs (nthX s.ex e).case.toNat) (fltyW (nthX s.ex e).word).toNat (valsL ch (finL s e))
theorem Q4 {f:Nat→Bool} {E k:Nat} (hk:k<E):minT f k (E - k)=if f k then (k:Int) else minT f (k+1) (E - (k+1)):=by
 rw[show E - k=(E - (k+1))+1 by omega];rfl
def failE (s:SysF) (ch:List Int):Int:=minT (fun e=> !okE s ch e) 0 s.ex.length
def solT (s:SysF) (ch:List Int):Bool×Int×Int:=if ruleE s ch=0 then (if failE s ch<0 then (true,0,0) else (false,failE s ch,0)) else (false,0,ruleE s ch)
def solV (t:Bool×Int×Int):Value:=.tuple #[.bool t.1,.int .i64 t.2.1,.int .i64 t.2.2]
theorem Yv {ch l:List Int} {k:Nat} (hk:k<l.length):nth (valsL ch l) k=nth ch (nth l k).toNat:=by
 unfold valsL
 simp[nth,hk]
theorem zeH {s:SysF} {e q f:Nat} (hf:fltyW (nthX s.ex e).word=f) (hq:q<s.N):(maskW s.N (nthX s.ex e).word).testBit q= !f.testBit q:=by
 unfold maskW
 rw[hf,Int.toNat_natCast,yh,Nat.testBit_two_pow_sub_one]
 simp[hq]
theorem Xe {S S2:Nat→Prop} {w:World} {v vch:Value} {s:SysF} {ch:List Int} (h:SysV S w v s) (hg:GoodS s s.N s.K) (h2:Ints S2 w vch ch) (hcl:ch.length=s.tab.length):
  Calls Tryz.prog 19 #[v,.agg #[vch]] w (Post w fun _ r=>r=.int .i64 (failE s ch)):=by
 have KL:Hid (∀W,Below w.heap.size w W→∀e,e<s.ex.length→Calls Tryz.prog 41 #[v,.agg #[vch],.int .i64 e] W (Post W fun w' r=>Ints (fun b=>W.heap.size≤b) w' r (valsL ch (finL s e)))):=zhd fun W hW e he=>XX (h.ext hW) hg (h2.ext hW) hcl he
 have KM:Hid (∀W,Below w.heap.size w W→∀e,e<s.ex.length→Calls Tryz.prog 43 #[v,.int .i64 e] W (Post W fun _ r=>r=.int .i64 (maskW s.N (nthX s.ex e).word))):=zhd fun W hW e he=>XU (h.ext hW) hg he
 have hN:=hg.pok.n1.2
 have HPK:=zhd hg.pok
 have HEX:=zhd hg.ex
 have HFY:=zhd fun e (he:e<s.ex.length)=>hg.flty he
 have HFN:=zhd fun e (he:e<s.ex.length)=>(hg.fin he).1
 obtain ⟨vc,vs,vt,vx,rfl,hc,hs,ht,hx⟩:=h
 obtain ⟨ca,cc,rfl,cad,_⟩:=hc.form
 obtain ⟨sa,sc,rfl,_⟩:=hs.form
 obtain ⟨ta,tc,rfl,_⟩:=ht.form
 obtain ⟨xa,xc,rfl,xad,_⟩:=hx.form2
 have hfew:=hx.few
 have HC:=zhd hc
 have HX:=zhd hx
 have HQ:=zhd (yg xad)
 have HQC:=zhd (Xi cad)
 obtain ⟨a2,c2,rfl,_⟩:=h2.form
 obtain ⟨ex,R0,R1⟩:=zb2 w [.int .i64 s.p.n,.int .i64 s.p.ins,.int .i64 s.p.outs,.slice ca s.p.cs.length cc,.int .i64 s.p.an,.slice sa s.p.st.length sc,.int .i64 s.p.rounds,.int .i64 s.tn,.slice ta s.tab.length tc,.slice xa s.ex.length xc] [.slice a2 ch.length c2] 39 32
 have HFE:Hid (failE s ch=minT (fun e=> !okE s ch e) 0 (s.ex.length - 0)):=zhd rfl
 obtain ⟨fe,hfe⟩:∃fe,fe=failE s ch:=⟨_,rfl⟩
 rw[←hfe]at HFE ⊢
 clear hc hs ht hx h2 hg hcl xad cad hfe
 go_enter Tryz.func19,Tryz.ntmps19
 go_wp2
 go_loopw [5,6,7,8,9] (fun i _ _ _ _ wr=>∃k:Nat,k≤s.ex.length∧i=.int .i64 k∧Below w.heap.size w wr∧Row wr w.heap.size 39 [.int .i64 s.p.n,.int .i64 s.p.ins,.int .i64 s.p.outs,.slice ca s.p.cs.length cc,.int .i64 s.p.an,.slice sa s.p.st.length sc,.int .i64 s.p.rounds,.int .i64 s.tn,.slice ta s.tab.length tc,.slice xa s.ex.length xc]∧Row wr (w.heap.size+1) 32 [.slice a2 ch.length c2]∧Hid (fe=minT (fun e=> !okE s ch e) k (s.ex.length - k))) (fun i _ _ _ _ _=>s.ex.length - (intOf i).toNat)
 case atStart=>exact ⟨0,Nat.zero_le _,rfl,ex,R0,R1,HFE⟩
 case round=>
  clear ex R0 R1 HFE
  obtain ⟨k,hk,rfl,hb,R0,R1,HFE⟩:=hrel
  by_cases hlt:k<s.ex.length
  case neg=>
   obtain rfl:k=s.ex.length:=by omega
   have RR:Hid (fe= -1):=zhd (by rw[HFE.out,Nat.sub_self];rfl)
   have t9:=R0.zc 9 rfl
   have l0:=R0.lt
   go_wp2
   go_ret
   exact .mk hb (zi RR.out.symm)
  obtain ⟨i,hX⟩:=HEX.out k hlt
  have hcase:=hX.case
  have hic:=hX.clt
  obtain ⟨f,hf,hf2⟩:=HFY.out k hlt
  have hf32:f<4294967296:=by have:=Nat.pow_le_pow_right (n:=2) (by decide) hN;omega
  obtain ⟨a1,c1,a3,c3,z0,z1,z2,i1,i2⟩:=HX.out.exec hlt
  replace z0:=zm z0 hb
  replace z1:=zm z1 hb
  replace z2:=zm z2 hb
  have bk:=World.block_lt_of_cell? _ _ z0
  have q1:=HQ.out k hlt
  have HI1:=zhd i1
  have HMI:=zhd (Q4 (f:=fun e=> !okE s ch e) hlt)
  rw[HMI.out]at HFE
  have HOK:Hid (okE s ch k=mayB (nthC s.p.cs i) f (valsL ch (finL s k))):=zhd (by unfold okE;rw[hcase,hf,Int.toNat_natCast,Int.toNat_natCast])
  have HMS:Hid (∀q,q<s.N→f.testBit q=false→nth (valsL ch (finL s k)) q<0→okE s ch k=false):=zhd fun q hq h1 h2=>by rw[HOK.out];exact zcH HPK.out hic hq h1 h2
  have HBT:=zhd fun q (hq:q<s.N)=>zeH (s:=s) (e:=k) hf hq
  have hmm:=zdc hN (nthX s.ex k).word
  have KL2:=zhd fun W (hW:Below wr.heap.size wr W)=>KL.out W (za hb hW) k hlt
  have KM2:=zhd fun W (hW:Below wr.heap.size wr W)=>KM.out W (za hb hW) k hlt
  have hvl:(valsL ch (finL s k)).length=s.N:=by rw[yO];exact HFN.out k hlt
  have HVV:=zhd fun v hv=>HPK.out.vecs (f:=f) hic v hv
  have HWF:=zhd hf
  obtain ⟨ok,hok⟩:∃ok,ok=okE s ch k:=⟨_,rfl⟩
  rw[←hok]at HFE HOK HMS
  obtain ⟨ls,hls⟩:∃ls,ls=valsL ch (finL s k):=⟨_,rfl⟩
  rw[←hls]at HOK HMS KL2 hvl
  obtain ⟨m,hm⟩:∃m,m=maskW s.N (nthX s.ex k).word:=⟨_,rfl⟩
  rw[←hm]at HBT hmm KM2
  rw[hcase]at z0
  obtain ⟨e,he⟩:∃e,e=nthX s.ex k:=⟨_,rfl⟩
  rw[←he]at z1 z2 HI1 HWF
  have HVL:=zhd hvl
  have RX:=ze wr [.int .i64 i,.slice a1 e.word.length c1,.slice a3 e.vs.length c3] 49
  have exA:=zb wr (.cells #[.int .i64 i,.slice a1 e.word.length c1,.slice a3 e.vs.length c3] 49)
  have R0A:=R0.alloc (.cells #[.int .i64 i,.slice a1 e.word.length c1,.slice a3 e.vs.length c3] 49)
  have t9:=R0.zc 9 rfl
  obtain ⟨y0,y1,y2,y3,y4,y5,y6,y7,y8,y9⟩:=R0A.ten
  have r1:=(R1.alloc (.cells #[.int .i64 i,.slice a1 e.word.length c1,.slice a3 e.vs.length c3] 49)).zc 0 rfl
  have l1:=R1.lt
  have l0:=R0.lt
  obtain ⟨wb,hwb⟩:∃wb,wb=wr.heap.size:=⟨_,rfl⟩
  have HWB:=zhd hwb
  clear hX hcase hf hok hls hm he hvl HMI KM KL i1 i2 hwb
  go_wp2_with fail
  refine (KL2.out _ exA).mono ?_
  rintro _ w1 ⟨vl,rfl,hb1,hl⟩
  have hr1:=za exA hb1
  replace R0:=R0A.ext hb1
  replace R1:=R1.ext hr1
  replace RX:=RX.ext hb1
  replace hb:=za hb hr1
  obtain ⟨la,lc,rfl,_⟩:=hl.form
  rw[HVL.out]at hl ⊢
  have HL:=zhd hl
  rw[←HWB.out]at RX ⊢
  clear t9 y0 y1 y2 y3 y4 y5 y6 y7 y8 y9 r1 l1 l0 z0 z1 z2 bk q1 KL2 exA R0A hb1 hl
  go_wp2
  go_loopw [8,9] (fun b j w'=>∃(q:Nat) (mi:Bool),q≤s.N∧j=.int .i64 q∧b=.bool mi∧Below w.heap.size w w'∧Below w1.heap.size w1 w'∧Row w' w.heap.size 39 [.int .i64 s.p.n,.int .i64 s.p.ins,.int .i64 s.p.outs,.slice ca s.p.cs.length cc,.int .i64 s.p.an,.slice sa s.p.st.length sc,.int .i64 s.p.rounds,.int .i64 s.tn,.slice ta s.tab.length tc,.slice xa s.ex.length xc]∧Row w' (w.heap.size+1) 32 [.slice a2 ch.length c2]∧Hid (mi=true→ok=false)) (fun _ j _=>s.N - (intOf j).toNat)
  case atStart=>exact ⟨0,false,Nat.zero_le _,rfl,rfl,hb,.refl _ _,R0,R1,zhd fun h=>by cases h⟩
  case round=>
   clear hb R0 R1
   have hr1':=hr1
   obtain ⟨q,mi,hq,rfl,rfl,hb,hb1,R0,R1,HMI⟩:=hrel
   obtain ⟨t0,t1,t2,t3,t4,t5,t6,t7,t8,t9⟩:=R0.ten
   have l0:=R0.lt
   by_cases hql:q<s.N
   case neg=>
    obtain rfl:q=s.N:=by omega
    have HB:=zhd hb
    have HR0:=zhd R0
    have HR1:=zhd R1
    clear t0 t1 t2 t4 t5 t6 t7 t8 t9
    cases mi with
    | true=>
     have HO0:Hid (ok=false):=zhd (HMI.out rfl)
     have RR:Hid (fe=k):=zhd (by rw[HFE.out,HO0.out];rfl)
     clear t3 l0
     go_wp2
     refine zH (fun _:World=>True) (fun i=>false) (by kernel_rfl) ?_ (fun hHeld=>?_)
     ·exact trivial
     refine anyE_take 0 (v:=?_) rfl (by kernel_rfl) (fun _ _ _ h=>h) (by rfl) ?hy0t hHeld ?r0t
     case hy0t=>(intro w hSw;(try dsimp only at hSw);go_simp;try with_reducible rfl)
     try simp only[Act.put,zsa,zsz,zss]
     refine anyE_take 1 (v:=?_) rfl (by kernel_rfl) (fun _ _ _ h=>h) (by rfl) ?hy1t hHeld ?r1t
     case hy1t=>(intro w hSw;(try dsimp only at hSw);go_simp;try with_reducible rfl)
     try simp only[Act.put,zsa,zsz,zss]
     refine zG 2 rfl (by kernel_rfl) (fun _ _ _ h=>h) (by rfl) hHeld ?_
     try simp only[Act.put,zsa,zsz,zss]
     refine zG 3 rfl (by kernel_rfl) (fun _ _ _ h=>h) (by rfl) hHeld ?_
     try simp only[Act.put,zsa,zsz,zss]
     refine zG 4 rfl (by kernel_rfl) (fun _ _ _ h=>h) (by rfl) hHeld ?_
     try simp only[Act.put,zsa,zsz,zss]
     refine zG 5 rfl (by kernel_rfl) (fun _ _ _ h=>h) (by rfl) hHeld ?_
     try simp only[Act.put,zsa,zsz,zss]
     refine zG 6 rfl (by kernel_rfl) (fun _ _ _ h=>h) (by rfl) hHeld ?_
     try simp only[Act.put,zsa,zsz,zss]
     refine zG 7 rfl (by kernel_rfl) (fun _ _ _ h=>h) (by rfl) hHeld ?_
     try simp only[Act.put,zsa,zsz,zss]
     refine zG 8 rfl (by kernel_rfl) (fun _ _ _ h=>h) (by rfl) hHeld ?_
     try simp only[Act.put,zsa,zsz,zss]
     refine zG 9 rfl (by kernel_rfl) (fun _ _ _ h=>h) (by rfl) hHeld ?_
     try simp only[Act.put,zsa,zsz,zss]
     refine zG 10 rfl (by kernel_rfl) (fun _ _ _ h=>h) (by rfl) hHeld ?_
     try simp only[Act.put,zsa,zsz,zss]
     refine zG 11 rfl (by kernel_rfl) (fun _ _ _ h=>h) (by rfl) hHeld ?_
     try simp only[Act.put,zsa,zsz,zss]
     refine zG 12 rfl (by kernel_rfl) (fun _ _ _ h=>h) (by rfl) hHeld ?_
     try simp only[Act.put,zsa,zsz,zss]
     refine zG 13 rfl (by kernel_rfl) (fun _ _ _ h=>h) (by rfl) hHeld ?_
     try simp only[Act.put,zsa,zsz,zss]
     refine zG 14 rfl (by kernel_rfl) (fun _ _ _ h=>h) (by rfl) hHeld ?_
     try simp only[Act.put,zsa,zsz,zss]
     refine anyE_take 15 (v:=?_) rfl (by kernel_rfl) (fun _ _ _ h=>h) (by rfl) ?hy15t hHeld ?r15t
     case hy15t=>(intro w hSw;(try dsimp only at hSw);go_simp;try with_reducible rfl)
     try simp only[Act.put,zsa,zsz,zss]
     refine zy (by kernel_rfl) ?_ _
     have hbf:=zhd (za HB.out (zh wr.heap.size wr 1))
     clear hHeld HB HR0 HR1 hb hb1 R0 R1
     go_wp2
     go_ret
     exact .mk hbf.out (zi RR.out.symm)
    | false=>
     have RXw:=RX.ext hb1
     have x0:=RXw.zc 0 rfl
     have x1:=RXw.zc 1 rfl
     have x2:=RXw.zc 2 rfl
     obtain ⟨v1,v2,v3,e1,e2,e3,j1,j2,j3⟩:=(HC.out.ext hb).case hic
     obtain ⟨d1,k1,rfl,_⟩:=j1.form
     obtain ⟨d2,k2,rfl,_⟩:=j2.form
     obtain ⟨d3,k3,rfl,_⟩:=j3.form
     have qc:=HQC.out i hic
     have KFL:Hid (∀W,Below wr.heap.size wr W→Calls Tryz.prog 45 #[.agg #[.int .i64 i,.slice a1 e.word.length c1,.slice a3 e.vs.length c3]] W (Post W fun _ r=>r=.int .i64 f)):=zhd fun W hW=>by
      have:=xn (va:=a3) (vn:=e.vs.length) (vc:=c3) (i:Int) ((HI1.out.ext hb).ext hW)
      rw[HWF.out]at this;exact this
     have KMY:=zhd fun W (hW:Below wr.heap.size wr W)=>zbL (f:=f) (j1.ext hW) (j2.ext hW) (j3.ext hW) ((HL.out.ext hb1).ext hW) (fun v hv=>by rw[(HVV.out v hv).1,HVL.out];exact Nat.le_refl _) (by rw[HVL.out];exact hN) hf32
     rw[←HOK.out]at KMY
     obtain ⟨l1,hl1⟩:∃l,l=(nthC s.p.cs i).inn.length:=⟨_,rfl⟩
     obtain ⟨l2,hl2⟩:∃l,l=(nthC s.p.cs i).out.length:=⟨_,rfl⟩
     obtain ⟨l3,hl3⟩:∃l,l=(nthC s.p.cs i).calm.length:=⟨_,rfl⟩
     rw[←hl1,←hl2,←hl3]at KMY
     rw[←hl1]at e1
     rw[←hl2]at e2
     rw[←hl3]at e3
     have KEEP:Hid (∀w',Below wr.heap.size wr w'→(fun w':World=>w'.cell? ⟨w.heap.size,3,none⟩=some (.slice ca s.p.cs.length cc)∧w'.cell? ⟨wb,0,none⟩=some (.int .i64 i)∧w'.cell? ⟨wb,1,none⟩=some (.slice a1 e.word.length c1)∧w'.cell? ⟨wb,2,none⟩=some (.slice a3 e.vs.length c3)∧w'.cell? (adr ca (i * 3))=some (.slice d1 l1 k1)∧w'.cell? ⟨(adr ca (i * 3)).block,(adr ca (i * 3)).off+1,none⟩=some (.slice d2 l2 k2)∧w'.cell? ⟨(adr ca (i * 3)).block,(adr ca (i * 3)).off+2,none⟩=some (.slice d3 l3 k3)) w'):=zhd fun w' hw=>⟨zm t3 hw,zm x0 hw,zm x1 hw,zm x2 hw,zm e1 hw,zm e2 hw,zm e3 hw⟩
     clear t3 l0 x0 x1 x2 e1 e2 e3 j1 j2 j3 RXw hl1 hl2 hl3 hb hb1 R0 R1
     go_wp2
     refine zH (fun w':World=>w'.cell? ⟨w.heap.size,3,none⟩=some (.slice ca s.p.cs.length cc)∧w'.cell? ⟨wb,0,none⟩=some (.int .i64 i)∧w'.cell? ⟨wb,1,none⟩=some (.slice a1 e.word.length c1)∧w'.cell? ⟨wb,2,none⟩=some (.slice a3 e.vs.length c3)∧w'.cell? (adr ca (i * 3))=some (.slice d1 l1 k1)∧w'.cell? ⟨(adr ca (i * 3)).block,(adr ca (i * 3)).off+1,none⟩=some (.slice d2 l2 k2)∧w'.cell? ⟨(adr ca (i * 3)).block,(adr ca (i * 3)).off+2,none⟩=some (.slice d3 l3 k3)) (fun i=>false) (by kernel_rfl) ?_ (fun hHeld=>?_)
     ·exact KEEP.out _ (zh _ _ 1)
     refine anyE_take 0 (v:=?_) rfl (by kernel_rfl) (fun _ _ _ h=>h) (by rfl) ?hy0b hHeld ?r0b
     case hy0b=>(intro w hSw;(try dsimp only at hSw);go_simp;try with_reducible rfl)
     try simp only[Act.put,zsa,zsz,zss]
     refine anyE_take 1 (v:=?_) rfl (by kernel_rfl) (fun _ _ _ h=>h) (by rfl) ?hy1b hHeld ?r1b
     case hy1b=>(intro w hSw;(try dsimp only at hSw);go_simp;try with_reducible rfl)
     try simp only[Act.put,zsa,zsz,zss]
     refine anyE_take 2 (v:=?_) rfl (by kernel_rfl) (fun _ _ _ h=>h) (by rfl) ?hy2b hHeld ?r2b
     case hy2b=>(intro w hSw;(try dsimp only at hSw);go_simp;try with_reducible rfl)
     try simp only[Act.put,zsa,zsz,zss]
     refine anyE_take 3 (v:=?_) rfl (by kernel_rfl) (fun _ _ _ h=>h) (by rfl) ?hy3b hHeld ?r3b
     case hy3b=>(intro w hSw;(try dsimp only at hSw);go_simp;try with_reducible rfl)
     try simp only[Act.put,zsa,zsz,zss]
     refine anyE_take 4 (v:=?_) rfl (by kernel_rfl) (fun _ _ _ h=>h) (by rfl) ?hy4b hHeld ?r4b
     case hy4b=>(intro w hSw;(try dsimp only at hSw);go_simp;try with_reducible rfl)
     try simp only[Act.put,zsa,zsz,zss]
     refine anyE_take 5 (v:=?_) rfl (by kernel_rfl) (fun _ _ _ h=>h) (by rfl) ?hy5b hHeld ?r5b
     case hy5b=>(intro w hSw;(try dsimp only at hSw);go_simp;try with_reducible rfl)
     try simp only[Act.put,zsa,zsz,zss]
     refine anyE_take 6 (v:=?_) rfl (by kernel_rfl) (fun _ _ _ h=>h) (by rfl) ?hy6b hHeld ?r6b
     case hy6b=>(intro w hSw;(try dsimp only at hSw);go_simp;try with_reducible rfl)
     try simp only[Act.put,zsa,zsz,zss]
     refine anyE_take 7 (v:=?_) rfl (by kernel_rfl) (fun _ _ _ h=>h) (by rfl) ?hy7b hHeld ?r7b
     case hy7b=>(intro w hSw;(try dsimp only at hSw);go_simp;try with_reducible rfl)
     try simp only[Act.put,zsa,zsz,zss]
     refine anyE_take 8 (v:=?_) rfl (by kernel_rfl) (fun _ _ _ h=>h) (by rfl) ?hy8b hHeld ?r8b
     case hy8b=>(intro w hSw;(try dsimp only at hSw);go_simp;try with_reducible rfl)
     try simp only[Act.put,zsa,zsz,zss]
     refine anyE_take 9 (v:=?_) rfl (by kernel_rfl) (fun _ _ _ h=>h) (by rfl) ?hy9b hHeld ?r9b
     case hy9b=>(intro w hSw;(try dsimp only at hSw);go_simp;try with_reducible rfl)
     try simp only[Act.put,zsa,zsz,zss]
     refine anyE_take 10 (v:=?_) rfl (by kernel_rfl) (fun _ _ _ h=>h) (by rfl) ?hy10b hHeld ?r10b
     case hy10b=>(intro w hSw;(try dsimp only at hSw);go_simp;try with_reducible rfl)
     try simp only[Act.put,zsa,zsz,zss]
     refine anyE_take 12 (v:=?_) rfl (by kernel_rfl) (fun _ _ _ h=>h) (by rfl) ?hy12b hHeld ?r12b
     case hy12b=>(intro w hSw;(try dsimp only at hSw);go_simp;try with_reducible rfl)
     try simp only[Act.put,zsa,zsz,zss]
     refine anyE_one 11 rfl (by kernel_rfl) (fun K hK=>?_)
     (go_simp;go_at_call 45;refine (KFL.out _ (zh _ _ 1)).mono ?_;rintro _ w4 ⟨_,rfl,hb4,rfl⟩;have y4:=za (zh _ _ 1) hb4;clear hb4)
     refine hK.out _ _ (fun _=>KEEP.out _ y4) (fun hHeld=>?_);replace hHeld:=hHeld rfl
     clear hK K
     try simp only[Act.put,zsa,zsz,zss]
     refine anyE_one 13 rfl (by kernel_rfl) (fun K hK=>?_)
     (go_simp;go_at_call 44;refine (KMY.out _ y4).mono ?_;rintro _ w5 ⟨_,rfl,hb5,rfl⟩;have y5:=za y4 hb5;clear hb5)
     refine hK.out _ _ (fun _=>KEEP.out _ y5) (fun hHeld=>?_);replace hHeld:=hHeld rfl
     clear hK K
     try simp only[Act.put,zsa,zsz,zss]
     refine anyE_take 14 (v:=?_) rfl (by kernel_rfl) (fun _ _ _ h=>h) (by rfl) ?hy14b hHeld ?r14b
     case hy14b=>(intro w hSw;(try dsimp only at hSw);go_simp;try with_reducible rfl)
     try simp only[Act.put,zsa,zsz,zss]
     refine anyE_take 15 (v:=?_) rfl (by kernel_rfl) (fun _ _ _ h=>h) (by rfl) ?hy15b hHeld ?r15b
     case hy15b=>(intro w hSw;(try dsimp only at hSw);go_simp;try with_reducible rfl)
     try simp only[Act.put,zsa,zsz,zss]
     refine zy (by kernel_rfl) ?_ _
     have R05:=HR0.out.ext y5
     have R15:=HR1.out.ext y5
     have hb5:=za HB.out y5
     clear hHeld KEEP KFL KMY y4 y5 HR0 HR1 HB qc
     cases ok with
     | true=>
      have HF2:Hid (fe=minT (fun e=> !okE s ch e) (k+1) (s.ex.length - (k+1))):=zhd (by rw[HFE.out];rfl)
      go_wp2
      go_roundw
      case rel=>exact ⟨k+1,by omega,by go_num,hb5,R05,R15,HF2⟩
      case measure=>simp[intOf];omega
     | false=>
      have RR:Hid (fe=k):=zhd (by rw[HFE.out];rfl)
      go_wp2
      go_ret
      exact .mk hb5 (zi RR.out.symm)
   cases mi with
   | true=>
    go_wp2
    go_roundw
    case rel=>exact ⟨q+1,true,by omega,by go_num,rfl,hb,hb1,R0,R1,HMI⟩
    case measure=>simp[intOf];omega
   | false=>
    have q1:=HL.out.idx (show q<ls.length by rw[HVL.out];exact hql)
    have cx:=(HL.out.ext hb1).cellN (show q<ls.length by rw[HVL.out];exact hql)
    have bx:=World.block_lt_of_cell? _ _ cx
    have HMQ:=zhd (HMS.out q hql)
    have HBQ:=zhd (HBT.out q hql)
    obtain ⟨x,hx⟩:∃x,x=nth ls q:=⟨_,rfl⟩
    rw[←hx]at cx HMQ
    clear hx
    by_cases hx0:x<0
    case neg=>
     have d1:decide (x<0)=false:=decide_eq_false hx0
     clear hx0
     go_wp2
     go_roundw
     case rel=>exact ⟨q+1,false,by omega,by go_num,rfl,hb,hb1,R0,R1,zhd fun h=>by cases h⟩
     case measure=>simp[intOf];omega
    have d1:decide (x<0)=true:=decide_eq_true hx0
    have HX0:=zhd hx0
    have KM3:=zhd (KM2.out wr (za hr1' hb1))
    clear hx0
    go_wp2_with fail
    refine KM3.out.mono ?_
    rintro _ w3 ⟨_,rfl,hb3,rfl⟩
    replace R0:=R0.ext hb3
    replace R1:=R1.ext hb3
    replace hb:=za hb hb3
    replace hb1:=za hb1 hb3
    have KH:=zhd ((yE w3 hmm (show q≤5 by omega)).mono fun _ _ h=>h.take)
    clear KM3 t0 t1 t2 t3 t4 t5 t6 t7 t8 t9 l0 hb3 cx bx q1
    obtain ⟨bt,hbt⟩:∃bt,bt=m.testBit q:=⟨_,rfl⟩
    rw[←hbt]at KH HBQ
    clear hbt
    go_wp2_with fail
    refine KH.out.mono ?_
    rintro _ w4 ⟨_,rfl,hq4,rfl⟩
    have hb4:=hq4.ext
    replace R0:=R0.ext hb4
    replace R1:=R1.ext hb4
    replace hb:=za hb hb4
    replace hb1:=za hb1 hb4
    clear KH hb4 hq4
    have HM2:Hid (bt=true→ok=false):=zhd fun h=>HMQ.out (by
     have:=HBQ.out
     rw[h]at this
     cases hft:f.testBit q with
     | false=>rfl
     | true=>rw[hft]at this;cases this) HX0.out
    go_wp2
    go_roundw
    case rel=>exact ⟨q+1,bt,by omega,by go_num,rfl,hb,hb1,R0,R1,HM2⟩
    case measure=>simp[intOf];omega
end Go.Proofs.YtjpakklplhabdaaGreat
