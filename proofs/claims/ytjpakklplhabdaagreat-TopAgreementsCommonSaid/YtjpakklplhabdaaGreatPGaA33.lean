/- Part of the proof that the laws answer true for every input. -/
import Derived.Test.YtjpakklplhabdaaGreatPGaA30
import Derived.Test.YtjpakklplhabdaaGreatPGaA32
set_option linter.unusedSimpArgs false
set_option linter.unnecessarySimpa false
set_option linter.unusedVariables false
set_option maxRecDepth 100000
set_option maxHeartbeats 40000000
namespace Go.Proofs.YtjpakklplhabdaaGreat
open Go.RowKit
attribute [local go_sem ↓] Go.wp_at_zero Go.wp_at_succ
theorem Qv {S S':Nat→Prop} {w:World} {v1 v2 u1 u2:Value} {x y:ExecD} (h1:Sl (kFlat 7) S w v1 x.word) (h2:Lists S w v2 x.vs) (g1:Sl (kFlat 7) S' w u1 y.word) (g2:Lists S' w u2 y.vs):
  Calls Tryz.prog 112 #[.agg #[.int .i64 x.case,v1,v2],.agg #[.int .i64 y.case,u1,u2]] w (Post w fun _ r=>r=.bool (decide (x=y))):=by
 obtain ⟨a1,c1,rfl,_⟩:=h1.form
 obtain ⟨a2,c2,rfl,ad2,hle2,hm2⟩:=h2.form
 obtain ⟨d1,e1,rfl,_⟩:=g1.form
 obtain ⟨d2,e2,rfl,bd2,_⟩:=g2.form
 unfold maxLen at hm2
 have HXE:=zhd (zch x y)
 obtain ⟨r,hr⟩:∃r,r=decide (x=y):=⟨_,rfl⟩
 rw[←hr]at HXE ⊢
 clear hr
 have K1:Hid (∀W,Below w.heap.size w W→Calls Tryz.prog 133 #[.slice a1 x.word.length c1,.slice d1 y.word.length e1] W (Post W fun _ r=>r=.bool (decide (x.word=y.word)))):=zhd fun W hW=>(YR (h1.ext hW) (g1.ext hW)).mono fun _ _ h=>h.post
 obtain ⟨b1,hb1⟩:∃b,b=decide (x.word=y.word):=⟨_,rfl⟩
 rw[←hb1]at K1 HXE
 have H2:=zhd h2
 have G2:=zhd g2
 obtain ⟨i0,hi,_,hz1,_⟩:=info_parts zF
 have Q1:=zhd (zz Tryz.underlying47 hi hz1 ad2)
 have Q2:=zhd (zz Tryz.underlying47 hi hz1 bd2)
 clear hb1 h1 h2 g1 g2 hi hz1 ad2 bd2
 obtain ⟨cx,hcx⟩:∃c,c=x.case:=⟨_,rfl⟩
 obtain ⟨cy,hcy⟩:∃c,c=y.case:=⟨_,rfl⟩
 obtain ⟨nw1,hn1⟩:∃n,n=x.word.length:=⟨_,rfl⟩
 obtain ⟨nw2,hn2⟩:∃n,n=y.word.length:=⟨_,rfl⟩
 obtain ⟨l1,hl1⟩:∃l,l=x.vs:=⟨_,rfl⟩
 obtain ⟨l2,hl2⟩:∃l,l=y.vs:=⟨_,rfl⟩
 rw[←hcx,←hcy,←hl1,←hl2]at HXE
 rw[←hn1,←hn2]at K1
 rw[←hl1]at H2 Q1 hle2
 rw[←hl2]at G2 Q2
 rw[←hcx,←hcy,←hn1,←hn2,←hl1,←hl2]
 clear hcx hcy hn1 hn2 hl1 hl2
 have ex:=zg (zb w (.cells #[.int .i64 cx,.slice a1 nw1 c1,.slice a2 l1.length c2] 49)) (.cells #[.int .i64 cy,.slice d1 nw2 e1,.slice d2 l2.length e2] 49)
 have R1:=(ze w [.int .i64 cx,.slice a1 nw1 c1,.slice a2 l1.length c2] 49).alloc (.cells #[.int .i64 cy,.slice d1 nw2 e1,.slice d2 l2.length e2] 49)
 have R2:=ze (w.alloc (.cells #[.int .i64 cx,.slice a1 nw1 c1,.slice a2 l1.length c2] 49)) [.int .i64 cy,.slice d1 nw2 e1,.slice d2 l2.length e2] 49
 rw[World.size_alloc]at R2
 by_cases hc:cx=cy
 case neg=>
  have d1':(cx !=cy)=true:=by simp[hc]
  have RR:Hid (r=false):=zhd (by rw[HXE.out];simp[hc])
  clear hc
  go_enter Tryz.func112,Tryz.ntmps112
  go_wp2
  go_ret
  exact .mk ex (zv RR.out.symm)
 have d1':(cx !=cy)=false:=by simp[hc]
 have HXF:Hid (r=(b1&&decide (l1=l2))):=zhd (by rw[HXE.out];simp[hc])
 clear HXE hc
 go_enter Tryz.func112,Tryz.ntmps112
 go_wp2_with fail
 refine (K1.out _ ex).mono ?_
 rintro _ w1 ⟨_,rfl,hb1,rfl⟩
 replace R1:=R1.ext hb1
 replace R2:=R2.ext hb1
 replace ex:=za ex hb1
 clear hb1 d1' K1
 cases b1 with
 | false=>
  have RR:Hid (r=false):=zhd (by rw[HXF.out];rfl)
  go_wp2
  go_ret
  exact .mk ex (zv RR.out.symm)
 | true=>
  have HXG:Hid (r=decide (l1=l2)):=zhd (by rw[HXF.out];simp)
  clear HXF
  have t2:=R1.zc 2 rfl
  have s2:=R2.zc 2 rfl
  by_cases hlen:l1.length=l2.length
  case neg=>
   have d2':((l1.length:Int) !=l2.length)=true:=by simp;omega
   have RR:Hid (r=false):=zhd (by rw[HXG.out];exact decide_eq_false fun h=>hlen (by rw[h]))
   clear hlen
   go_wp2
   go_ret
   exact .mk ex (zv RR.out.symm)
  have d2':((l1.length:Int) !=l2.length)=false:=by simp[hlen]
  have HL:=zhd hlen
  clear hlen
  go_wp2
  clear t2 s2 d2'
  go_loopw [5] (fun i wr=>∃k:Nat,k≤l1.length∧i=.int .i64 k∧Below w.heap.size w wr∧Row wr w.heap.size 49 [.int .i64 cx,.slice a1 nw1 c1,.slice a2 l1.length c2]∧Row wr (w.heap.size+1) 49 [.int .i64 cy,.slice d1 nw2 e1,.slice d2 l2.length e2]∧Hid (l1.take k=l2.take k)) (fun i _=>l1.length - (intOf i).toNat)
  case atStart=>exact ⟨0,Nat.zero_le _,rfl,ex,R1,R2,zhd rfl⟩
  case round=>
   clear ex R1 R2
   obtain ⟨k,hk,rfl,hb,R1,R2,H⟩:=hrel
   have t2:=R1.zc 2 rfl
   have s2:=R2.zc 2 rfl
   have lt1:=R1.lt
   have lt2:=R2.lt
   by_cases hlt:k<l1.length
   case neg=>
    have RR:Hid (r=true):=zhd (by
     rw[HXG.out]
     have:=H.out
     have h2:=HL.out
     rw[List.take_of_length_le (by omega),List.take_of_length_le (by omega)]at this
     exact decide_eq_true this)
    go_wp2
    go_ret
    exact .mk hb (zv RR.out.symm)
   have hlt2:k<l2.length:=by have:=HL.out;omega
   have q1:=Q1.out k hlt
   have q2:=Q2.out k hlt2
   obtain ⟨p1,z1,i1⟩:=H2.out.at hb hlt
   obtain ⟨p2,z2,i2⟩:=G2.out.at hb hlt2
   have bk1:=World.block_lt_of_cell? _ _ z1
   have bk2:=World.block_lt_of_cell? _ _ z2
   obtain ⟨xx,hxx⟩:∃xx,xx=nthL l1 k:=⟨_,rfl⟩
   obtain ⟨yy,hyy⟩:∃yy,yy=nthL l2 k:=⟨_,rfl⟩
   rw[←hxx]at i1
   rw[←hyy]at i2
   have KI:Hid (∀n,Calls Tryz.prog 134 #[p1,p2] (wr.drewN n) (QuietP (wr.drewN n) (.bool (decide (xx=yy))))):=zhd fun n=>ZY (i1.drewN n) (i2.drewN n)
   obtain ⟨f1,g1,rfl,_⟩:=i1.form
   obtain ⟨f2,g2,rfl,_⟩:=i2.form
   have HXY:=zhd (And.intro hxx hyy)
   have HNX:Hid (∀n,Below w.heap.size w (wr.drewN n)∧Row (wr.drewN n) w.heap.size 49 [.int .i64 cx,.slice a1 nw1 c1,.slice a2 l1.length c2]∧Row (wr.drewN n) (w.heap.size+1) 49 [.int .i64 cy,.slice d1 nw2 e1,.slice d2 l2.length e2]):=zhd fun n=>⟨hb.trans (zh _ wr n),R1.ext (zh _ wr n),R2.ext (zh _ wr n)⟩
   obtain ⟨bb,hbb⟩:∃bb,bb=decide (xx=yy):=⟨_,rfl⟩
   rw[←hbb]at KI
   have HB:=zhd hbb
   clear hbb hxx hyy i1 i2 R1 R2 hb
   cases bb with
   | true=>
    have HE:Hid (xx=yy):=zhd (by have:=HB.out;simpa using this.symm)
    go_wp2
    go_quiet ((go_at_call 134;exact zr (KI.out _)))
    go_wp2
    go_roundw
    case rel=>exact ⟨k+1,by omega,by go_num,(HNX.out _).1,(HNX.out _).2.1,(HNX.out _).2.2,zhd (qG hlt hlt2 H.out (by rw[←HXY.out.1,←HXY.out.2];exact HE.out))⟩
    case measure=>simp[intOf];omega
   | false=>
    have HE:Hid (xx≠yy):=zhd (by have:=HB.out;simpa using this.symm)
    have RR:Hid (r=false):=zhd (by rw[HXG.out];exact decide_eq_false fun h=>HE.out (by rw[HXY.out.1,HXY.out.2,h]))
    go_wp2
    go_quiet ((go_at_call 134;exact zr (KI.out _)))
    go_wp2
    go_ret
    exact .mk (HNX.out _).1 (zv RR.out.symm)
theorem Qj {S S':Nat→Prop} {w:World} {v1 v2:Value} {p:ProbD} {n1 n2:Int} {t1 t2:List (List Int)} {l1 l2:List ExecD} (h1:SysV S w v1 ⟨p,n1,t1,l1⟩) (h2:SysV S' w v2 ⟨p,n2,t2,l2⟩):
  Calls Tryz.prog 79 #[v1,v2] w (Post w fun _ r=>r=.bool (decide ((n1=n2∧t1=t2)∧l1=l2))):=by
 obtain ⟨vc,vs,vt,vx,rfl,hc,hs,ht,hx⟩:=h1
 obtain ⟨vc2,vs2,vt2,vx2,rfl,hc2,hs2,ht2,hx2⟩:=h2
 dsimp only at hc hs ht hx hc2 hs2 ht2 hx2 ⊢
 obtain ⟨ca,cc,rfl,_⟩:=hc.form
 obtain ⟨sa,sc,rfl,_⟩:=hs.form
 obtain ⟨ta,tc,rfl,_⟩:=ht.form
 obtain ⟨xa,xc,rfl,xad,_⟩:=hx.form2
 obtain ⟨ca2,cc2,rfl,_⟩:=hc2.form
 obtain ⟨sa2,sc2,rfl,_⟩:=hs2.form
 obtain ⟨ta2,tc2,rfl,_⟩:=ht2.form
 obtain ⟨xa2,xc2,rfl,xad2,_⟩:=hx2.form2
 have hxf:=hx.few
 have KP:Hid (∀W,Below w.heap.size w W→Calls Tryz.prog 110 #[.agg #[.int .i64 p.n,.int .i64 p.ins,.int .i64 p.outs,.slice ca p.cs.length cc,.int .i64 p.an,.slice sa p.st.length sc,.int .i64 p.rounds],.agg #[.int .i64 p.n,.int .i64 p.ins,.int .i64 p.outs,.slice ca2 p.cs.length cc2,.int .i64 p.an,.slice sa2 p.st.length sc2,.int .i64 p.rounds]] W (Post W fun _ r=>r=.bool true)):=zhd fun W hW=>Qt (hc.ext hW) (hc2.ext hW) (hs.ext hW) (hs2.ext hW)
 have KT:Hid (∀W,Below w.heap.size w W→Calls Tryz.prog 111 #[.agg #[.int .i64 n1,.slice ta t1.length tc],.agg #[.int .i64 n2,.slice ta2 t2.length tc2]] W (Post W fun _ r=>r=.bool (decide (n1=n2∧t1=t2)))):=zhd fun W hW=>YB n1 n2 (ht.ext hW) (ht2.ext hW)
 have HX:=zhd hx
 have HX2:=zhd hx2
 have Q1:=zhd (yg xad)
 have Q2:=zhd (yg xad2)
 clear hc hs ht hx hc2 hs2 ht2 hx2 xad xad2
 obtain ⟨b1,hb1⟩:∃b,b=decide (n1=n2∧t1=t2):=⟨_,rfl⟩
 obtain ⟨r,hr⟩:∃r,r=decide ((n1=n2∧t1=t2)∧l1=l2):=⟨_,rfl⟩
 have HRR:Hid (r=(b1&&decide (l1=l2))):=zhd (by rw[hr,hb1];simp[Bool.and_assoc])
 rw[←hb1]at KT
 rw[←hr]
 clear hb1 hr
 have ex:=zg (zb w (.cells #[.int .i64 p.n,.int .i64 p.ins,.int .i64 p.outs,.slice ca p.cs.length cc,.int .i64 p.an,.slice sa p.st.length sc,.int .i64 p.rounds,.int .i64 n1,.slice ta t1.length tc,.slice xa l1.length xc] 39)) (.cells #[.int .i64 p.n,.int .i64 p.ins,.int .i64 p.outs,.slice ca2 p.cs.length cc2,.int .i64 p.an,.slice sa2 p.st.length sc2,.int .i64 p.rounds,.int .i64 n2,.slice ta2 t2.length tc2,.slice xa2 l2.length xc2] 39)
 have R1:=(ze w [.int .i64 p.n,.int .i64 p.ins,.int .i64 p.outs,.slice ca p.cs.length cc,.int .i64 p.an,.slice sa p.st.length sc,.int .i64 p.rounds,.int .i64 n1,.slice ta t1.length tc,.slice xa l1.length xc] 39).alloc (.cells #[.int .i64 p.n,.int .i64 p.ins,.int .i64 p.outs,.slice ca2 p.cs.length cc2,.int .i64 p.an,.slice sa2 p.st.length sc2,.int .i64 p.rounds,.int .i64 n2,.slice ta2 t2.length tc2,.slice xa2 l2.length xc2] 39)
 have R2:=ze (w.alloc (.cells #[.int .i64 p.n,.int .i64 p.ins,.int .i64 p.outs,.slice ca p.cs.length cc,.int .i64 p.an,.slice sa p.st.length sc,.int .i64 p.rounds,.int .i64 n1,.slice ta t1.length tc,.slice xa l1.length xc] 39)) [.int .i64 p.n,.int .i64 p.ins,.int .i64 p.outs,.slice ca2 p.cs.length cc2,.int .i64 p.an,.slice sa2 p.st.length sc2,.int .i64 p.rounds,.int .i64 n2,.slice ta2 t2.length tc2,.slice xa2 l2.length xc2] 39
 rw[World.size_alloc]at R2
 have c0:=R1.zc 0 rfl
 have c1:=R1.zc 1 rfl
 have c2:=R1.zc 2 rfl
 have c3:=R1.zc 3 rfl
 have c4:=R1.zc 4 rfl
 have c5:=R1.zc 5 rfl
 have c6:=R1.zc 6 rfl
 have d0:=R2.zc 0 rfl
 have d1:=R2.zc 1 rfl
 have d2:=R2.zc 2 rfl
 have d3:=R2.zc 3 rfl
 have d4:=R2.zc 4 rfl
 have d5:=R2.zc 5 rfl
 have d6:=R2.zc 6 rfl
 have lR1:=R1.lt
 have lR2:=R2.lt
 go_enter Tryz.func79,Tryz.ntmps79
 go_wp2_with fail
 refine (KP.out _ ex).mono ?_
 rintro _ w1 ⟨_,rfl,hb1,rfl⟩
 replace R1:=R1.ext hb1
 replace R2:=R2.ext hb1
 replace ex:=za ex hb1
 clear c0 c1 c2 c3 c4 c5 c6 d0 d1 d2 d3 d4 d5 d6 hb1 KP lR1 lR2
 have c7:=R1.zc 7 rfl
 have c8:=R1.zc 8 rfl
 have d7:=R2.zc 7 rfl
 have d8:=R2.zc 8 rfl
 go_wp2_with fail
 refine (KT.out _ ex).mono ?_
 rintro _ w3 ⟨_,rfl,hb3,rfl⟩
 replace R1:=R1.ext hb3
 replace R2:=R2.ext hb3
 replace ex:=za ex hb3
 clear c7 c8 d7 d8 hb3 KT
 cases b1 with
 | false=>
  have RR:Hid (r=false):=zhd (by rw[HRR.out];rfl)
  go_wp2
  go_ret
  exact .mk ex (zv RR.out.symm)
 | true=>
  have HXG:Hid (r=decide (l1=l2)):=zhd (by rw[HRR.out];simp)
  clear HRR
  have c9:=R1.zc 9 rfl
  have d9:=R2.zc 9 rfl
  by_cases hlen:l1.length=l2.length
  case neg=>
   have d2':((l1.length:Int) !=l2.length)=true:=by simp;omega
   have RR:Hid (r=false):=zhd (by rw[HXG.out];exact decide_eq_false fun h=>hlen (by rw[h]))
   clear hlen
   go_wp2
   go_ret
   exact .mk ex (zv RR.out.symm)
  have d2':((l1.length:Int) !=l2.length)=false:=by simp[hlen]
  have HL:=zhd hlen
  clear hlen
  go_wp2
  clear c9 d9 d2'
  go_loopw [5] (fun i wr=>∃k:Nat,k≤l1.length∧i=.int .i64 k∧Below w.heap.size w wr∧Row wr w.heap.size 39 [.int .i64 p.n,.int .i64 p.ins,.int .i64 p.outs,.slice ca p.cs.length cc,.int .i64 p.an,.slice sa p.st.length sc,.int .i64 p.rounds,.int .i64 n1,.slice ta t1.length tc,.slice xa l1.length xc]∧Row wr (w.heap.size+1) 39 [.int .i64 p.n,.int .i64 p.ins,.int .i64 p.outs,.slice ca2 p.cs.length cc2,.int .i64 p.an,.slice sa2 p.st.length sc2,.int .i64 p.rounds,.int .i64 n2,.slice ta2 t2.length tc2,.slice xa2 l2.length xc2]∧Hid (l1.take k=l2.take k)) (fun i _=>l1.length - (intOf i).toNat)
  case atStart=>exact ⟨0,Nat.zero_le _,rfl,ex,R1,R2,zhd rfl⟩
  case round=>
   clear ex R1 R2
   obtain ⟨k,hk,rfl,hb,R1,R2,H⟩:=hrel
   have c9:=R1.zc 9 rfl
   have d9:=R2.zc 9 rfl
   have lt1:=R1.lt
   have lt2:=R2.lt
   by_cases hlt:k<l1.length
   case neg=>
    have RR:Hid (r=true):=zhd (by
     rw[HXG.out]
     have:=H.out
     have h2:=HL.out
     rw[List.take_of_length_le (by omega),List.take_of_length_le (by omega)]at this
     exact decide_eq_true this)
    go_wp2
    go_ret
    exact .mk hb (zv RR.out.symm)
   have hlt2:k<l2.length:=by have:=HL.out;omega
   have q1:=Q1.out k hlt
   have q2:=Q2.out k hlt2
   obtain ⟨f1,g1,f2,g2,z0,z1,z2,i1,i2⟩:=(HX.out.ext hb).exec hlt
   obtain ⟨f3,g3,f4,g4,s0,s1,s2,j1,j2⟩:=(HX2.out.ext hb).exec hlt2
   have KX:Hid (∀W,Below wr.heap.size wr W→Calls Tryz.prog 112 #[.agg #[.int .i64 (nthX l1 k).case,.slice f1 (nthX l1 k).word.length g1,.slice f2 (nthX l1 k).vs.length g2],.agg #[.int .i64 (nthX l2 k).case,.slice f3 (nthX l2 k).word.length g3,.slice f4 (nthX l2 k).vs.length g4]] W (Post W fun _ r=>r=.bool (decide (nthX l1 k=nthX l2 k)))):=zhd fun W hW=>Qv (i1.ext hW) (i2.ext hW) (j1.ext hW) (j2.ext hW)
   obtain ⟨x,hxx⟩:∃xx,xx=nthX l1 k:=⟨_,rfl⟩
   obtain ⟨y,hyy⟩:∃yy,yy=nthX l2 k:=⟨_,rfl⟩
   rw[←hxx]at z0 z1 z2 KX
   rw[←hyy]at s0 s1 s2 KX
   have HXY:=zhd (And.intro hxx hyy)
   have KEEP:Hid (∀w',Below wr.heap.size wr w'→(fun w':World=>w'.cell? ⟨w.heap.size,9,none⟩=some (.slice xa l1.length xc)∧w'.cell? ⟨w.heap.size+1,9,none⟩=some (.slice xa2 l2.length xc2)∧w'.cell? (adr xa (k * 3))=some (.int .i64 x.case)∧w'.cell? ⟨(adr xa (k * 3)).block,(adr xa (k * 3)).off+1,none⟩=some (.slice f1 x.word.length g1)∧w'.cell? ⟨(adr xa (k * 3)).block,(adr xa (k * 3)).off+2,none⟩=some (.slice f2 x.vs.length g2)∧w'.cell? (adr xa2 (k * 3))=some (.int .i64 y.case)∧w'.cell? ⟨(adr xa2 (k * 3)).block,(adr xa2 (k * 3)).off+1,none⟩=some (.slice f3 y.word.length g3)∧w'.cell? ⟨(adr xa2 (k * 3)).block,(adr xa2 (k * 3)).off+2,none⟩=some (.slice f4 y.vs.length g4)) w'):=zhd fun w' hw=>⟨zm c9 hw,zm d9 hw,zm z0 hw,zm z1 hw,zm z2 hw,zm s0 hw,zm s1 hw,zm s2 hw⟩
   have HNX:Hid (∀W,Below wr.heap.size wr W→Below w.heap.size w W∧Row W w.heap.size 39 [.int .i64 p.n,.int .i64 p.ins,.int .i64 p.outs,.slice ca p.cs.length cc,.int .i64 p.an,.slice sa p.st.length sc,.int .i64 p.rounds,.int .i64 n1,.slice ta t1.length tc,.slice xa l1.length xc]∧Row W (w.heap.size+1) 39 [.int .i64 p.n,.int .i64 p.ins,.int .i64 p.outs,.slice ca2 p.cs.length cc2,.int .i64 p.an,.slice sa2 p.st.length sc2,.int .i64 p.rounds,.int .i64 n2,.slice ta2 t2.length tc2,.slice xa2 l2.length xc2]):=zhd fun W hW=>⟨za hb hW,R1.ext hW,R2.ext hW⟩
   obtain ⟨bb,hbb⟩:∃bb,bb=decide (x=y):=⟨_,rfl⟩
   rw[←hbb]at KX
   have HB:=zhd hbb
   clear hbb hxx hyy i1 i2 j1 j2 R1 R2 hb z0 z1 z2 s0 s1 s2
   go_wp2
   refine zH (fun w':World=>w'.cell? ⟨w.heap.size,9,none⟩=some (.slice xa l1.length xc)∧w'.cell? ⟨w.heap.size+1,9,none⟩=some (.slice xa2 l2.length xc2)∧w'.cell? (adr xa (k * 3))=some (.int .i64 x.case)∧w'.cell? ⟨(adr xa (k * 3)).block,(adr xa (k * 3)).off+1,none⟩=some (.slice f1 x.word.length g1)∧w'.cell? ⟨(adr xa (k * 3)).block,(adr xa (k * 3)).off+2,none⟩=some (.slice f2 x.vs.length g2)∧w'.cell? (adr xa2 (k * 3))=some (.int .i64 y.case)∧w'.cell? ⟨(adr xa2 (k * 3)).block,(adr xa2 (k * 3)).off+1,none⟩=some (.slice f3 y.word.length g3)∧w'.cell? ⟨(adr xa2 (k * 3)).block,(adr xa2 (k * 3)).off+2,none⟩=some (.slice f4 y.vs.length g4)) (fun i=>false) (by kernel_rfl) ?_ (fun hHeld=>?_)
   ·exact KEEP.out _ (zh _ _ 1)
   refine anyE_take 0 (v:=?_) rfl (by kernel_rfl) (fun _ _ _ h=>h) (by rfl) ?hy0 hHeld ?r0
   case hy0=>(intro w hSw;(try dsimp only at hSw);go_simp;try with_reducible rfl)
   try simp only[Act.put,zsa,zsz,zss]
   refine anyE_take 1 (v:=?_) rfl (by kernel_rfl) (fun _ _ _ h=>h) (by rfl) ?hy1 hHeld ?r1
   case hy1=>(intro w hSw;(try dsimp only at hSw);go_simp;try with_reducible rfl)
   try simp only[Act.put,zsa,zsz,zss]
   refine anyE_take 2 (v:=?_) rfl (by kernel_rfl) (fun _ _ _ h=>h) (by rfl) ?hy2 hHeld ?r2
   case hy2=>(intro w hSw;(try dsimp only at hSw);go_simp;try with_reducible rfl)
   try simp only[Act.put,zsa,zsz,zss]
   refine anyE_take 3 (v:=?_) rfl (by kernel_rfl) (fun _ _ _ h=>h) (by rfl) ?hy3 hHeld ?r3
   case hy3=>(intro w hSw;(try dsimp only at hSw);go_simp;try with_reducible rfl)
   try simp only[Act.put,zsa,zsz,zss]
   refine anyE_take 4 (v:=?_) rfl (by kernel_rfl) (fun _ _ _ h=>h) (by rfl) ?hy4 hHeld ?r4
   case hy4=>(intro w hSw;(try dsimp only at hSw);go_simp;try with_reducible rfl)
   try simp only[Act.put,zsa,zsz,zss]
   refine anyE_take 5 (v:=?_) rfl (by kernel_rfl) (fun _ _ _ h=>h) (by rfl) ?hy5 hHeld ?r5
   case hy5=>(intro w hSw;(try dsimp only at hSw);go_simp;try with_reducible rfl)
   try simp only[Act.put,zsa,zsz,zss]
   refine anyE_take 6 (v:=?_) rfl (by kernel_rfl) (fun _ _ _ h=>h) (by rfl) ?hy6 hHeld ?r6
   case hy6=>(intro w hSw;(try dsimp only at hSw);go_simp;try with_reducible rfl)
   try simp only[Act.put,zsa,zsz,zss]
   refine anyE_take 7 (v:=?_) rfl (by kernel_rfl) (fun _ _ _ h=>h) (by rfl) ?hy7 hHeld ?r7
   case hy7=>(intro w hSw;(try dsimp only at hSw);go_simp;try with_reducible rfl)
   try simp only[Act.put,zsa,zsz,zss]
   refine anyE_take 8 (v:=?_) rfl (by kernel_rfl) (fun _ _ _ h=>h) (by rfl) ?hy8 hHeld ?r8
   case hy8=>(intro w hSw;(try dsimp only at hSw);go_simp;try with_reducible rfl)
   try simp only[Act.put,zsa,zsz,zss]
   refine anyE_take 9 (v:=?_) rfl (by kernel_rfl) (fun _ _ _ h=>h) (by rfl) ?hy9 hHeld ?r9
   case hy9=>(intro w hSw;(try dsimp only at hSw);go_simp;try with_reducible rfl)
   try simp only[Act.put,zsa,zsz,zss]
   refine anyE_one 10 rfl (by kernel_rfl) (fun K hK=>?_)
   go_simp;go_at_call 112;refine (KX.out _ (zh _ _ 1)).mono ?_;rintro _ w2 ⟨_,rfl,hb2,rfl⟩;have y2:=za (zh _ _ 1) hb2;clear hb2
   refine hK.out _ _ (fun _=>KEEP.out _ y2) (fun hHeld=>?_);replace hHeld:=hHeld rfl
   clear hK K
   try simp only[Act.put,zsa,zsz,zss]
   refine anyE_take 11 (v:=?_) rfl (by kernel_rfl) (fun _ _ _ h=>h) (by rfl) ?hy11 hHeld ?r11
   case hy11=>(intro w hSw;(try dsimp only at hSw);go_simp;try with_reducible rfl)
   try simp only[Act.put,zsa,zsz,zss]
   refine zy (by kernel_rfl) ?_ _
   clear hHeld KEEP KX q1 q2 c9 d9 lt1 lt2
   cases bb with
   | true=>
    have HE:Hid (x=y):=zhd (by have:=HB.out;simpa using this.symm)
    go_wp2
    go_roundw
    case rel=>exact ⟨k+1,by omega,by go_num,(HNX.out _ y2).1,(HNX.out _ y2).2.1,(HNX.out _ y2).2.2,zhd (zaQ hlt hlt2 H.out (by rw[←HXY.out.1,←HXY.out.2];exact HE.out))⟩
    case measure=>simp[intOf];omega
   | false=>
    have HE:Hid (x≠y):=zhd (by have:=HB.out;simpa using this.symm)
    have RR:Hid (r=false):=zhd (by rw[HXG.out];exact decide_eq_false fun h=>HE.out (by rw[HXY.out.1,HXY.out.2,h]))
    go_wp2
    go_ret
    exact .mk (HNX.out _ y2).1 (zv RR.out.symm)
theorem zaP {p:ProbD} (h:1≤p.cs.length):4096<p.cs.length * cutW p.st p.rounds.toNat 4096 0↔4096<p.num:=by
 unfold ProbD.num
 by_cases hc:4096<cntW p.st p.rounds.toNat 0
 ·have h1:=ZF.2 hc
  have h2:=Nat.mul_le_mul_right (cutW p.st p.rounds.toNat 4096 0) h
  have h3:=Nat.mul_le_mul_right (cntW p.st p.rounds.toNat 0) h
  omega
 ·rw[X8 hc]
theorem zb6 {p:ProbD} {N:Nat} (hn:p.n=N) (hN:N≤3) (hk:0≤p.rounds∧p.rounds≤6) (hnum:p.num≤60):p.full.tab.length≤1260:=by
 have h1:=xB p.n.toNat p.rounds.toNat p.cs p.pairs p.pairs_word
 rw[p.pairs_len]at h1
 have h2:p.num * (p.n.toNat * (p.rounds.toNat+1))≤60 * (3 * 7):=Nat.mul_le_mul hnum (Nat.mul_le_mul (by omega) (by omega))
 show (runE p.n.toNat p.cs p.pairs).1.length≤1260
 omega
theorem XD {S:Nat→Prop} {w:World} {vc vs:Value} {p:ProbD} (hc:Sl kCase S w vc p.cs) (hs:Sl (kSl (kFlat 8)) S w vs p.st) (hz:checkPr p=0) (hnum:p.num≤60) (hn3:p.n≤3):
  Calls Tryz.prog 78 #[.agg #[.int .i64 p.n,.int .i64 p.ins,.int .i64 p.outs,vc,.int .i64 p.an,vs,.int .i64 p.rounds]] w (Post w fun w' r=>SysV (fun b=>S b∨w.heap.size≤b) w' r p.full):=by
 obtain ⟨N,hok⟩:=probOK hz
 obtain ⟨n,ins,outs,cs,an,st,rounds⟩:=p
 obtain ⟨K,hK⟩:∃K:Nat,rounds=K:=⟨rounds.toNat,by have:=hok.r;dsimp only at this;omega⟩
 have e1:=hok.n
 have e2:=hok.an
 dsimp only at e1 e2
 subst e1 e2 hK
 exact YW hc.block hs.block hok hnum (by dsimp only at hn3;omega)
theorem xS {S:Nat→Prop} {w:World} {vc vs:Value} {p:ProbD} (hc:Sl kCase S w vc p.cs) (hs:Sl (kSl (kFlat 8)) S w vs p.st) (hsm:SmallP p):
  Calls Tryz.prog 38 #[.agg #[.int .i64 p.n,.int .i64 p.ins,.int .i64 p.outs,vc,.int .i64 p.an,vs,.int .i64 p.rounds]] w (Post w (BuildR p)):=by
 obtain ⟨ca,cc,rfl,_⟩:=hc.form
 obtain ⟨sa,sc,rfl,_⟩:=hs.form
 have KC:Hid (∀W,Below w.heap.size w W→Calls Tryz.prog 76 #[.agg #[.int .i64 p.n,.int .i64 p.ins,.int .i64 p.outs,.slice ca p.cs.length cc,.int .i64 p.an,.slice sa p.st.length sc,.int .i64 p.rounds]] W (Post W fun _ r=>r=.int .i64 (checkPr p))):=zhd fun W hW=>qL (hc.ext hW) (hs.ext hW)
 have KN:Hid (checkPr p=0→∀W,Below w.heap.size w W→Calls Tryz.prog 77 #[.agg #[.int .i64 p.n,.int .i64 p.ins,.int .i64 p.outs,.slice ca p.cs.length cc,.int .i64 p.an,.slice sa p.st.length sc,.int .i64 p.rounds],.int .i64 4096] W (Post W fun _ r=>r=.int .i64 (p.cs.length * cutW p.st p.rounds.toNat 4096 0:Nat))):=zhd fun hz W hW=>xh (hc.ext hW) (hs.ext hW) hz 4096 (by omega)
 have KB:Hid (checkPr p=0→p.num≤4096→∀W,Below w.heap.size w W→Calls Tryz.prog 78 #[.agg #[.int .i64 p.n,.int .i64 p.ins,.int .i64 p.outs,.slice ca p.cs.length cc,.int .i64 p.an,.slice sa p.st.length sc,.int .i64 p.rounds]] W (Post W fun w' r=>SysV (fun b=>(S b∧b<w.heap.size)∨W.heap.size≤b) w' r p.full)):=zhd fun hz hn W hW=>XD (hc.block.ext hW) (hs.block.ext hW) hz (hsm hz hn).1 (hsm hz hn).2
 have HSM:=zhd hsm
 have ex:=zg (zb w (.cells #[.int .i64 p.n,.int .i64 p.ins,.int .i64 p.outs,.slice ca p.cs.length cc,.int .i64 p.an,.slice sa p.st.length sc,.int .i64 p.rounds] 29)) (.cells #[.int .i64 0,.int .i64 0,.int .i64 0,.slice none 0 0,.int .i64 0,.slice none 0 0,.int .i64 0,.int .i64 0,.slice none 0 0,.slice none 0 0] 39)
 have R1:=(ze w [.int .i64 p.n,.int .i64 p.ins,.int .i64 p.outs,.slice ca p.cs.length cc,.int .i64 p.an,.slice sa p.st.length sc,.int .i64 p.rounds] 29).alloc (.cells #[.int .i64 0,.int .i64 0,.int .i64 0,.slice none 0 0,.int .i64 0,.slice none 0 0,.int .i64 0,.int .i64 0,.slice none 0 0,.slice none 0 0] 39)
 have RS:=ze (w.alloc (.cells #[.int .i64 p.n,.int .i64 p.ins,.int .i64 p.outs,.slice ca p.cs.length cc,.int .i64 p.an,.slice sa p.st.length sc,.int .i64 p.rounds] 29)) [.int .i64 0,.int .i64 0,.int .i64 0,.slice none 0 0,.int .i64 0,.slice none 0 0,.int .i64 0,.int .i64 0,.slice none 0 0,.slice none 0 0] 39
 rw[World.size_alloc]at RS
 obtain ⟨S2,hS2'⟩:∃S2,S2=w.heap.size+1:=⟨_,rfl⟩
 have hS2:w.heap.size≤S2:=by omega
 rw[←hS2']at RS
 have HS2:=zhd hS2'
 obtain ⟨e1,he1⟩:∃e,e=checkPr p:=⟨_,rfl⟩
 rw[←he1]at KC
 have HE1:=zhd he1
 clear hc hs hsm he1 hS2'
 have c0:=R1.zc 0 rfl
 have c1:=R1.zc 1 rfl
 have c2:=R1.zc 2 rfl
 have c3:=R1.zc 3 rfl
 have c4:=R1.zc 4 rfl
 have c5:=R1.zc 5 rfl
 have c6:=R1.zc 6 rfl
 have lR1:=R1.lt
 go_enter Tryz.func38,Tryz.ntmps38
 go_wp2_with fail
 refine (KC.out _ ex).mono ?_
 rintro _ w1 ⟨_,rfl,hb1,rfl⟩
 replace R1:=R1.ext hb1
 replace RS:=RS.ext hb1
 replace ex:=za ex hb1
 clear c0 c1 c2 c3 c4 c5 c6 lR1 hb1 KC
 rw[←HS2.out]
 by_cases h1:e1=0
 case neg=>
  have d1:(e1 !=0)=true:=by simp[h1]
  have HBE:Hid (buildE p≠0∧buildE p=e1):=zhd (by
   have:buildE p=checkPr p:=by unfold buildE;rw[if_neg (by rw[←HE1.out];exact h1)]
   rw[this,←HE1.out];exact ⟨h1,rfl⟩)
  clear h1 R1
  obtain ⟨d0,d1,d2,d3,d4,d5,d6,d7,d8,d9⟩:=RS.ten
  have f0:=RS.free 0
  have f1:=RS.free 1
  have f2:=RS.free 2
  have f3:=RS.free 3
  have f4:=RS.free 4
  have f5:=RS.free 5
  have f6:=RS.free 6
  have f7:=RS.free 7
  have f8:=RS.free 8
  have f9:=RS.free 9
  have l2:=RS.lt
  have HRS:=zhd (RS.sets [(0,.int .i64 0),(1,.int .i64 0),(2,.int .i64 0),(3,.slice none 0 0),(4,.int .i64 0),(5,.slice none 0 0),(6,.int .i64 0),(7,.int .i64 0),(8,.slice none 0 0),(9,.slice none 0 0)])
  have HBS:=zhd (zD hS2 [(0,.int .i64 0),(1,.int .i64 0),(2,.int .i64 0),(3,.slice none 0 0),(4,.int .i64 0),(5,.slice none 0 0),(6,.int .i64 0),(7,.int .i64 0),(8,.slice none 0 0),(9,.slice none 0 0)] w1 ex)
  have HAS:=zhd (zQ S2 [(0,.int .i64 0),(1,.int .i64 0),(2,.int .i64 0),(3,.slice none 0 0),(4,.int .i64 0),(5,.slice none 0 0),(6,.int .i64 0),(7,.int .i64 0),(8,.slice none 0 0),(9,.slice none 0 0)] w1)
  obtain ⟨W7,hW7⟩:∃W7,W7=sets S2 [(0,.int .i64 0),(1,.int .i64 0),(2,.int .i64 0),(3,.slice none 0 0),(4,.int .i64 0),(5,.slice none 0 0),(6,.int .i64 0),(7,.int .i64 0),(8,.slice none 0 0),(9,.slice none 0 0)] w1:=⟨_,rfl⟩
  rw[←hW7]at HRS HBS HAS
  unfold sets at hW7
  simp only[List.foldl_cons,List.foldl_nil]at hW7
  clear RS ex
  go_wp2
  rw[←hW7]
  clear hW7
  have q0:W7.cell? ⟨S2,0,none⟩=some _:=HRS.out.zc 0 rfl
  have q1:W7.cell? ⟨S2,1,none⟩=some _:=HRS.out.zc 1 rfl
  have q2:W7.cell? ⟨S2,2,none⟩=some _:=HRS.out.zc 2 rfl
  have q3:W7.cell? ⟨S2,3,none⟩=some _:=HRS.out.zc 3 rfl
  have q4:W7.cell? ⟨S2,4,none⟩=some _:=HRS.out.zc 4 rfl
  have q5:W7.cell? ⟨S2,5,none⟩=some _:=HRS.out.zc 5 rfl
  have q6:W7.cell? ⟨S2,6,none⟩=some _:=HRS.out.zc 6 rfl
  have q7:W7.cell? ⟨S2,7,none⟩=some _:=HRS.out.zc 7 rfl
  have q8:W7.cell? ⟨S2,8,none⟩=some _:=HRS.out.zc 8 rfl
  have q9:W7.cell? ⟨S2,9,none⟩=some _:=HRS.out.zc 9 rfl
  refine bodyPost_ret (v:=.tuple #[.agg #[.int .i64 0,.int .i64 0,.int .i64 0,.slice none 0 0,.int .i64 0,.slice none 0 0,.int .i64 0,.int .i64 0,.slice none 0 0,.slice none 0 0],.int .i64 e1]) (by simp[results,Tryz.results38,go_sem,q0,q1,q2,q3,q4,q5,q6,q7,q8,q9]) rfl ?_
  exact .mk HBS.out (.inr ⟨HBE.out.1,by rw[HBE.out.2];rfl⟩)
 have HZ:Hid (checkPr p=0):=zhd (by rw[←HE1.out];exact h1)
 have d1:(e1 !=0)=false:=by simp[h1]
 clear h1
 have c0:=R1.zc 0 rfl
 have c1:=R1.zc 1 rfl
 have c2:=R1.zc 2 rfl
 have c3:=R1.zc 3 rfl
 have c4:=R1.zc 4 rfl
 have c5:=R1.zc 5 rfl
 have c6:=R1.zc 6 rfl
 have lR1:=R1.lt
 have lRS:=RS.lt
 go_wp2_with fail
 refine (KN.out HZ.out _ ex).mono ?_
 rintro _ w2 ⟨_,rfl,hb2,rfl⟩
 replace R1:=R1.ext hb2
 replace RS:=RS.ext hb2
 replace ex:=za ex hb2
 clear c0 c1 c2 c3 c4 c5 c6 lR1 lRS hb2 KN d1
 have hcl:=(probOK HZ.out)
 have htest:=zaP (p:=p) (by obtain ⟨N,hok⟩:=hcl;exact hok.c1.1)
 obtain ⟨q,hq⟩:∃q,q=p.cs.length * cutW p.st p.rounds.toNat 4096 0:=⟨_,rfl⟩
 rw[←hq]at htest ⊢
 have HTE:=zhd htest
 clear hq htest hcl
 by_cases h2:4096<q
 case pos=>
  have HBE:Hid (buildE p=17):=zhd (by unfold buildE;rw[if_pos HZ.out,if_pos (HTE.out.1 h2)])
  have hq2:(4096:Int)<(q:Int):=by omega
  clear R1
  obtain ⟨d0,d1,d2,d3,d4,d5,d6,d7,d8,d9⟩:=RS.ten
  have f0:=RS.free 0
  have f1:=RS.free 1
  have f2:=RS.free 2
  have f3:=RS.free 3
  have f4:=RS.free 4
  have f5:=RS.free 5
  have f6:=RS.free 6
  have f7:=RS.free 7
  have f8:=RS.free 8
  have f9:=RS.free 9
  have l2:=RS.lt
  have HRS:=zhd (RS.sets [(0,.int .i64 0),(1,.int .i64 0),(2,.int .i64 0),(3,.slice none 0 0),(4,.int .i64 0),(5,.slice none 0 0),(6,.int .i64 0),(7,.int .i64 0),(8,.slice none 0 0),(9,.slice none 0 0)])
  have HBS:=zhd (zD hS2 [(0,.int .i64 0),(1,.int .i64 0),(2,.int .i64 0),(3,.slice none 0 0),(4,.int .i64 0),(5,.slice none 0 0),(6,.int .i64 0),(7,.int .i64 0),(8,.slice none 0 0),(9,.slice none 0 0)] w2 ex)
  have HAS:=zhd (zQ S2 [(0,.int .i64 0),(1,.int .i64 0),(2,.int .i64 0),(3,.slice none 0 0),(4,.int .i64 0),(5,.slice none 0 0),(6,.int .i64 0),(7,.int .i64 0),(8,.slice none 0 0),(9,.slice none 0 0)] w2)
  obtain ⟨W7,hW7⟩:∃W7,W7=sets S2 [(0,.int .i64 0),(1,.int .i64 0),(2,.int .i64 0),(3,.slice none 0 0),(4,.int .i64 0),(5,.slice none 0 0),(6,.int .i64 0),(7,.int .i64 0),(8,.slice none 0 0),(9,.slice none 0 0)] w2:=⟨_,rfl⟩
  rw[←hW7]at HRS HBS HAS
  unfold sets at hW7
  simp only[List.foldl_cons,List.foldl_nil]at hW7
  clear RS ex
  go_wp2
  rw[←hW7]
  clear hW7
  have q0:W7.cell? ⟨S2,0,none⟩=some _:=HRS.out.zc 0 rfl
  have q1:W7.cell? ⟨S2,1,none⟩=some _:=HRS.out.zc 1 rfl
  have q2:W7.cell? ⟨S2,2,none⟩=some _:=HRS.out.zc 2 rfl
  have q3:W7.cell? ⟨S2,3,none⟩=some _:=HRS.out.zc 3 rfl
  have q4:W7.cell? ⟨S2,4,none⟩=some _:=HRS.out.zc 4 rfl
  have q5:W7.cell? ⟨S2,5,none⟩=some _:=HRS.out.zc 5 rfl
  have q6:W7.cell? ⟨S2,6,none⟩=some _:=HRS.out.zc 6 rfl
  have q7:W7.cell? ⟨S2,7,none⟩=some _:=HRS.out.zc 7 rfl
  have q8:W7.cell? ⟨S2,8,none⟩=some _:=HRS.out.zc 8 rfl
  have q9:W7.cell? ⟨S2,9,none⟩=some _:=HRS.out.zc 9 rfl
  refine bodyPost_ret (v:=.tuple #[.agg #[.int .i64 0,.int .i64 0,.int .i64 0,.slice none 0 0,.int .i64 0,.slice none 0 0,.int .i64 0,.int .i64 0,.slice none 0 0,.slice none 0 0],.int .i64 17]) (by simp[results,Tryz.results38,go_sem,q0,q1,q2,q3,q4,q5,q6,q7,q8,q9]) rfl ?_
  exact .mk HBS.out (.inr ⟨by rw[HBE.out];decide,by rw[HBE.out];rfl⟩)
 have HN:Hid (¬4096<p.num):=zhd fun h=>h2 (HTE.out.2 h)
 have HBE:Hid (buildE p=0):=zhd (by unfold buildE;rw[if_pos HZ.out,if_neg HN.out])
 have c0:=R1.zc 0 rfl
 have c1:=R1.zc 1 rfl
 have c2:=R1.zc 2 rfl
 have c3:=R1.zc 3 rfl
 have c4:=R1.zc 4 rfl
 have c5:=R1.zc 5 rfl
 have c6:=R1.zc 6 rfl
 have lR1:=R1.lt
 have lRS:=RS.lt
 go_wp2_with fail
 refine (KB.out HZ.out (by have:=HN.out;omega) _ ex).mono ?_
 rintro _ w3 ⟨bv,rfl,hb3,hsy⟩
 obtain ⟨vc2,vs2,vt2,vx2,rfl,hc2,hs2',ht2,hx2⟩:=hsy
 obtain ⟨ca2,cc2,rfl,_⟩:=hc2.form
 obtain ⟨sa2,sc2,rfl,_⟩:=hs2'.form
 obtain ⟨ta2,tc2,rfl,_⟩:=ht2.form
 obtain ⟨xa2,xc2,rfl,_⟩:=hx2.form
 have e9:p.full.p.n=p.n∧p.full.p.ins=p.ins∧p.full.p.outs=p.outs∧p.full.p.an=p.an∧p.full.p.rounds=p.rounds∧p.full.tn=p.n:=⟨rfl,rfl,rfl,rfl,rfl,rfl⟩
 rw[e9.1,e9.2.1,e9.2.2.1,e9.2.2.2.1,e9.2.2.2.2.1,e9.2.2.2.2.2]
 have htl:p.full.tab.length≤1260:=by
  obtain ⟨N,hok⟩:=probOK HZ.out
  have:=HSM.out HZ.out (by have:=HN.out;omega)
  exact zb6 hok.n (by have:=hok.n;omega) hok.r this.1
 have hs2:=ex.size
 replace RS:=RS.ext hb3
 replace ex:=za ex hb3
 have HSY:Hid (∀W,Agree (fun b=>b≠S2) (w3.alloc (.cells #[.int .i64 p.n,.int .i64 p.ins,.int .i64 p.outs,.slice ca2 p.full.p.cs.length cc2,.int .i64 p.an,.slice sa2 p.full.p.st.length sc2,.int .i64 p.rounds,.int .i64 p.n,.slice ta2 p.full.tab.length tc2,.slice xa2 p.full.ex.length xc2] 39)) W→SysV TT W (.agg #[.int .i64 p.n,.int .i64 p.ins,.int .i64 p.outs,.slice ca2 p.full.p.cs.length cc2,.int .i64 p.an,.slice sa2 p.full.p.st.length sc2,.int .i64 p.rounds,.int .i64 p.n,.slice ta2 p.full.tab.length tc2,.slice xa2 p.full.ex.length xc2]) p.full):=zhd fun W hW=>by
  have h:=HS2.out
  have hA:Agree (fun b=>(S b∧b<w.heap.size)∨w2.heap.size≤b) w3 W:=((Agree.refl _ _).alloc _).trans (hW.mono fun b hb=>by rcases hb with h1 | h1<;>omega)
  exact ⟨_,_,_,_,rfl,(hc2.agree hA).all,(hs2'.agree hA).all,(ht2.agree hA).all,(hx2.agree hA).all⟩
 have R5:=ze w3 [.int .i64 p.n,.int .i64 p.ins,.int .i64 p.outs,.slice ca2 p.full.p.cs.length cc2,.int .i64 p.an,.slice sa2 p.full.p.st.length sc2,.int .i64 p.rounds,.int .i64 p.n,.slice ta2 p.full.tab.length tc2,.slice xa2 p.full.ex.length xc2] 39
 replace RS:=RS.alloc (.cells #[.int .i64 p.n,.int .i64 p.ins,.int .i64 p.outs,.slice ca2 p.full.p.cs.length cc2,.int .i64 p.an,.slice sa2 p.full.p.st.length sc2,.int .i64 p.rounds,.int .i64 p.n,.slice ta2 p.full.tab.length tc2,.slice xa2 p.full.ex.length xc2] 39)
 replace ex:=zg ex (.cells #[.int .i64 p.n,.int .i64 p.ins,.int .i64 p.outs,.slice ca2 p.full.p.cs.length cc2,.int .i64 p.an,.slice sa2 p.full.p.st.length sc2,.int .i64 p.rounds,.int .i64 p.n,.slice ta2 p.full.tab.length tc2,.slice xa2 p.full.ex.length xc2] 39)
 have ht81:¬8192<p.full.tab.length:=by omega
 clear c0 c1 c2 c3 c4 c5 c6 lR1 lRS hb3 KB R1 hc2 hs2' ht2 hx2 e9 htl
 go_upto_region 7 with fail
 obtain ⟨w5,hw5⟩:∃w5,w5=w3.alloc (.cells #[.int .i64 p.n,.int .i64 p.ins,.int .i64 p.outs,.slice ca2 p.full.p.cs.length cc2,.int .i64 p.an,.slice sa2 p.full.p.st.length sc2,.int .i64 p.rounds,.int .i64 p.n,.slice ta2 p.full.tab.length tc2,.slice xa2 p.full.ex.length xc2] 39):=⟨_,rfl⟩
 obtain ⟨B5,hB5⟩:∃B5,B5=w3.heap.size:=⟨_,rfl⟩
 rw[←hw5]at R5 RS ex HSY
 rw[←hB5]at R5
 rw[←hw5,←hB5]
 clear hw5 hB5
 obtain ⟨c0,c1,c2,c3,c4,c5,c6,c7,c8,c9⟩:=R5.ten
 have l5:=R5.lt
 clear R5
 obtain ⟨d0,d1,d2,d3,d4,d5,d6,d7,d8,d9⟩:=RS.ten
 have f0:=RS.free 0
 have f1:=RS.free 1
 have f2:=RS.free 2
 have f3:=RS.free 3
 have f4:=RS.free 4
 have f5:=RS.free 5
 have f6:=RS.free 6
 have f7:=RS.free 7
 have f8:=RS.free 8
 have f9:=RS.free 9
 have l2:=RS.lt
 have HRS:=zhd (RS.sets [(0,.int .i64 p.n),(1,.int .i64 p.ins),(2,.int .i64 p.outs),(3,.slice ca2 p.full.p.cs.length cc2),(4,.int .i64 p.an),(5,.slice sa2 p.full.p.st.length sc2),(6,.int .i64 p.rounds),(7,.int .i64 p.n),(8,.slice ta2 p.full.tab.length tc2),(9,.slice xa2 p.full.ex.length xc2)])
 have HBS:=zhd (zD hS2 [(0,.int .i64 p.n),(1,.int .i64 p.ins),(2,.int .i64 p.outs),(3,.slice ca2 p.full.p.cs.length cc2),(4,.int .i64 p.an),(5,.slice sa2 p.full.p.st.length sc2),(6,.int .i64 p.rounds),(7,.int .i64 p.n),(8,.slice ta2 p.full.tab.length tc2),(9,.slice xa2 p.full.ex.length xc2)] w5 ex)
 have HAS:=zhd (zQ S2 [(0,.int .i64 p.n),(1,.int .i64 p.ins),(2,.int .i64 p.outs),(3,.slice ca2 p.full.p.cs.length cc2),(4,.int .i64 p.an),(5,.slice sa2 p.full.p.st.length sc2),(6,.int .i64 p.rounds),(7,.int .i64 p.n),(8,.slice ta2 p.full.tab.length tc2),(9,.slice xa2 p.full.ex.length xc2)] w5)
 obtain ⟨W7,hW7⟩:∃W7,W7=sets S2 [(0,.int .i64 p.n),(1,.int .i64 p.ins),(2,.int .i64 p.outs),(3,.slice ca2 p.full.p.cs.length cc2),(4,.int .i64 p.an),(5,.slice sa2 p.full.p.st.length sc2),(6,.int .i64 p.rounds),(7,.int .i64 p.n),(8,.slice ta2 p.full.tab.length tc2),(9,.slice xa2 p.full.ex.length xc2)] w5:=⟨_,rfl⟩
 rw[←hW7]at HRS HBS HAS
 unfold sets at hW7
 simp only[List.foldl_cons,List.foldl_nil]at hW7
 clear RS ex
 go_wp2
 rw[←hW7]
 clear hW7
 have q0:W7.cell? ⟨S2,0,none⟩=some _:=HRS.out.zc 0 rfl
 have q1:W7.cell? ⟨S2,1,none⟩=some _:=HRS.out.zc 1 rfl
 have q2:W7.cell? ⟨S2,2,none⟩=some _:=HRS.out.zc 2 rfl
 have q3:W7.cell? ⟨S2,3,none⟩=some _:=HRS.out.zc 3 rfl
 have q4:W7.cell? ⟨S2,4,none⟩=some _:=HRS.out.zc 4 rfl
 have q5:W7.cell? ⟨S2,5,none⟩=some _:=HRS.out.zc 5 rfl
 have q6:W7.cell? ⟨S2,6,none⟩=some _:=HRS.out.zc 6 rfl
 have q7:W7.cell? ⟨S2,7,none⟩=some _:=HRS.out.zc 7 rfl
 have q8:W7.cell? ⟨S2,8,none⟩=some _:=HRS.out.zc 8 rfl
 have q9:W7.cell? ⟨S2,9,none⟩=some _:=HRS.out.zc 9 rfl
 refine bodyPost_ret (v:=.tuple #[.agg #[.int .i64 p.n,.int .i64 p.ins,.int .i64 p.outs,.slice ca2 p.full.p.cs.length cc2,.int .i64 p.an,.slice sa2 p.full.p.st.length sc2,.int .i64 p.rounds,.int .i64 p.n,.slice ta2 p.full.tab.length tc2,.slice xa2 p.full.ex.length xc2],.int .i64 0]) (by simp[results,Tryz.results38,go_sem,q0,q1,q2,q3,q4,q5,q6,q7,q8,q9]) rfl ?_
 exact .mk HBS.out (.inl ⟨HBE.out,_,rfl,HSY.out _ HAS.out⟩)
end Go.Proofs.YtjpakklplhabdaaGreat
